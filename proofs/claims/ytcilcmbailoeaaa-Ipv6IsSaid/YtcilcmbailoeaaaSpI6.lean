/- Contracts: packets of the sixth version. -/
import Derived.Test.YtcilcmbailoeaaaSpI4p
import Derived.Test.YtcilcmbailoeaaaSpIp6
set_option linter.all false
namespace Sp
open Go Go.Proofs Sx Go.Proofs.Ytcilcmbailoeaaa.Ma
@[reducible] def h6V (h : H6) : List A := [.l (.i .i64 h.1), .l (.i .i64 h.2.1), .l (.i .i64 h.2.2.1), .l (.i .i64 h.2.2.2.1), .l (.i .i64 h.2.2.2.2.1), .l (.i .u64 h.2.2.2.2.2.1), .l (.i .u64 h.2.2.2.2.2.2.1), .l (.b h.2.2.2.2.2.2.2.1), .l (.i .u64 h.2.2.2.2.2.2.2.2.1), .l (.i .u64 h.2.2.2.2.2.2.2.2.2.1), .l (.b h.2.2.2.2.2.2.2.2.2.2)]
@[reducible] def h6K : List Kd := [.i .i64, .i .i64, .i .i64, .i .i64, .i .i64, .i .u64, .i .u64, .b, .i .u64, .i .u64, .b]
def NumberS : Con := .look (List Int) (fun b => [.one (.f 0 b.length)]) (fun b => [.row false u8K b]) (fun b => okB b ∧ b.length ≤ 4) fun b => .i .i64 (numZ b)
def ContS : Con := .pure (Pf × Ad) (fun x => [.agg (pfV x.1), .agg (adV x.2)]) (fun x => wfP x.1 ∧ wfA x.2) fun x => .b (contZ x.1 x.2)
def Strange6S : Con := .pure (Ad × Ad) (fun x => [.agg (adV x.1), .agg (adV x.2)]) (fun x => wfA x.1 ∧ wfA x.2) fun x => .b (strange6 x.1 x.2)
def Read6S : Con := .look (List Int) (fun b => [.one (.f 0 b.length)]) (fun b => [.row false u8K b]) (fun b => okB b ∧ 40 ≤ b.length) fun b => .v (.agg (h6V (read6 b)))
def Parse6S : Con := .look (List Int) (fun b => [.one (.f 0 b.length)]) (fun b => [.row false u8K b]) (fun b => okB b ∧ b.length ≤ most) fun b => .tup [.agg (h6V (parse6 b).1), .i .i64 (parse6 b).2]
def Hop6S : Con := .row1 (List Int) (fun b => [.one (.f 0 b.length)]) (fun b => [.row false u8K b]) 1 (fun b => okB b ∧ b.length ≤ most) u8K (fun b => (hop6 b).1) fun b a => .tup [.one a, .b (hop6 b).2]
def Whole6S : Con := .row1 Ad (fun a => [.agg (adV a)]) (fun _ => []) 0 wfA u8K whole6 fun _ a => .a a
def wfH6 (h : H6) : Prop := wfA (src6 h) ∧ wfA (dst6 h)
def Build6S : Con := .row1 (H6 × List Int) (fun x => [.agg (h6V x.1), .one (.f 0 x.2.length)]) (fun x => [.row false u8K x.2]) 1 (fun x => wfH6 x.1 ∧ okB x.2) u8K (fun x => build6 x.1 x.2) fun _ a => .a a
def GrowS : Con := .row1 Int (fun n => [.one .ns, .i .i64 n]) (fun _ => []) 0 (fun n => 0 ≤ n ∧ n ≤ most) u8K (fun _ => []) fun _ a => .a a
def J0 : List (Nat × Con) := (136, NumberS) :: (137, ContS) :: (125, Whole6S) :: (138, GrowS) :: I0
def J1 : List (Nat × Con) := (121, Read6S) :: (122, Strange6S) :: J0
def J2 : List (Nat × Con) := (80, Parse6S) :: J1
def J3 : List (Nat × Con) := (82, Hop6S) :: (85, Build6S) :: J2
def LqJ : FuncId → Nat → Lan
  | 136, _ => .inv { X := Int × Int, slots := [8, 3], vals := fun x => [.i .i64 x.1, .i .i64 x.2], fix := [], new := [], drop := [], obs := fun x => [] }
  | 124, _ => .unroll 5
  | _, _ => .none
-- OWES number kedge/ipv6.number NumberS W1 LqJ 0
-- OWES contains kedge/prefix.Contains ContS W1 LqJ 0
-- OWES whole6 kedge/ipv6.whole Whole6S W1 LqJ 0
-- OWES grow slices.Grow[[]byte,byte] GrowS W1 LqJ 0
-- OWES read6 kedge/ipv6.read Read6S J0 LqJ 1
-- OWES strange6 kedge/ipv6.strange Strange6S J0 LqJ 0
-- OWES parse6 kedge/ipv6.Parse Parse6S J1 LqJ 0
-- OWES hop6 kedge/ipv6.Hop Hop6S J2 LqJ 0
-- OWES build6 kedge/ipv6.Build Build6S J2 LqJ 2
end Sp
