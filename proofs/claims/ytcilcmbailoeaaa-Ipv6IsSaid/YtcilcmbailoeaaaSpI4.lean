/- Contracts: sums, packets of the fourth version. -/
import Derived.Test.YtcilcmbailoeaaaSpWp
import Derived.Test.YtcilcmbailoeaaaSpIp4
set_option linter.all false
namespace Sp
open Go Go.Proofs Sx Go.Proofs.Ytcilcmbailoeaaa.Ma
def FoldS : Con := .pure Int (fun n => [.i .u64 n]) (fun n => 0 ≤ n ∧ n < 18446744073709551616) fun n => .i .u16 (foldZ n)
def SumS : Con := .look (List Int) (fun b => [.one (.f 0 b.length)]) (fun b => [.row false u8K b]) (fun b => okB b ∧ b.length ≤ most) fun b => .i .u16 (sumZ b)
def WordS : Con := .look (List Int) (fun b => [.one (.f 0 b.length)]) (fun b => [.row false u8K b]) (fun b => okB b ∧ 2 ≤ b.length) fun b => .i .u16 (wordZ b 0)
def CheckS : Con := .look (List Int) (fun b => [.one (.f 0 b.length)]) (fun b => [.row false u8K b]) (fun b => okB b ∧ b.length ≤ most) fun b => .b (decide (sumZ b = 0))
def PatchS : Con := .pure (Int × Int × Int) (fun x => [.i .u16 x.1, .i .u16 x.2.1, .i .u16 x.2.2]) (fun x => (0 ≤ x.1 ∧ x.1 ≤ 65535) ∧ (0 ≤ x.2.1 ∧ x.2.1 ≤ 65535) ∧ 0 ≤ x.2.2 ∧ x.2.2 ≤ 65535) fun x => .i .u16 (patchZ x.1 x.2.1 x.2.2)
def fillB (b : List Int) (at_ : Int) : Bool := decide (0 ≤ at_) && (decide (at_ % 2 = 0) && decide (at_ < (b.length : Int) - 1))
def fillZ (b : List Int) (at_ : Int) : List Int := if fillB b at_ = true then put2 b at_.toNat (sumZ (put2 b at_.toNat 0)) else b
def FillS : Con := .row1 (List Int × Int) (fun x => [.one (.f 0 x.1.length), .i .i64 x.2]) (fun x => [.row false u8K x.1]) 1 (fun x => okB x.1 ∧ x.1.length ≤ most ∧ -9223372036854775808 ≤ x.2 ∧ x.2 ≤ 9223372036854775807) u8K (fun x => fillZ x.1 x.2) fun x a => .tup [.one a, .b (fillB x.1 x.2)]
@[reducible] def hdV (h : Hd) : List A := [.l (.i .i64 h.1), .l (.i .i64 h.2.1), .l (.i .i64 h.2.2.1), .l (.i .i64 h.2.2.2.1), .l (.i .u64 h.2.2.2.2.1), .l (.i .u64 h.2.2.2.2.2.1), .l (.b h.2.2.2.2.2.2.1), .l (.i .u64 h.2.2.2.2.2.2.2.1), .l (.i .u64 h.2.2.2.2.2.2.2.2.1), .l (.b h.2.2.2.2.2.2.2.2.2)]
@[reducible] def hdK : List Kd := [.i .i64, .i .i64, .i .i64, .i .i64, .i .u64, .i .u64, .b, .i .u64, .i .u64, .b]
def ReadHS : Con := .look (List Int) (fun b => [.one (.f 0 b.length)]) (fun b => [.row false u8K b]) (fun b => okB b ∧ 20 ≤ b.length) fun b => .v (.agg (hdV (readH b)))
def Parse4S : Con := .look (List Int) (fun b => [.one (.f 0 b.length)]) (fun b => [.row false u8K b]) okB fun b => .tup [.agg (hdV (parse4 b).1), .i .i64 (parse4 b).2]
def Hop4S : Con := .row1 (List Int) (fun b => [.one (.f 0 b.length)]) (fun b => [.row false u8K b]) 1 (fun b => okB b ∧ b.length ≤ most) u8K (fun b => (hop4 b).1) fun b a => .tup [.one a, .b (hop4 b).2]
def wfH (h : Hd) : Prop := wfA (hSrc h) ∧ wfA (hDst h)
def Build4S : Con := .row1 (Hd × List Int) (fun x => [.agg (hdV x.1), .one (.f 0 x.2.length)]) (fun x => [.row false u8K x.2]) 1 (fun x => wfH x.1 ∧ okB x.2) u8K (fun x => build4 x.1 x.2) fun _ a => .a a
def I0 : List (Nat × Con) := (98, FoldS) :: (99, CloneS u8K) :: W1
def I1 : List (Nat × Con) := (32, SumS) :: (120, WordS) :: I0
def I2 : List (Nat × Con) := (34, CheckS) :: (35, PatchS) :: (36, FillS) :: (115, ReadHS) :: I1
def I3 : List (Nat × Con) := (67, Parse4S) :: I2
def I4 : List (Nat × Con) := (78, Hop4S) :: (65, Build4S) :: I3
def LqI : FuncId → Nat → Lan
  | 98, _ => .inv { X := Int, slots := [0], vals := fun x => [.i .u64 x], fix := [], new := [], drop := [], obs := fun x => [] }
  | 96, _ => .inv { X := Nat × Nat × Int, slots := [0], vals := fun x => [.a (.sb 0 1 x.1 x.2.1)], fix := [1], new := [], drop := [], obs := fun x => [.cells [.l (.i .u64 x.2.2)]], keep := [0] }
  | 65, _ => .unroll 3
  | _, _ => .none
-- OWES fold kedge/sums.fold FoldS W1 LqI 0
-- OWES bclone bytes.Clone (CloneS_u8K) W1 LqI 0
-- OWES sum kedge/sums.Sum SumS I0 LqI 2
-- OWES word kedge/ipv4.word WordS I0 LqI 0
-- OWES check kedge/sums.Check CheckS I1 LqI 0
-- OWES patch kedge/sums.Patch PatchS I1 LqI 0
-- OWES fill kedge/sums.Fill FillS I1 LqI 0
-- OWES readh kedge/ipv4.read ReadHS I1 LqI 0
-- OWES parse4 kedge/ipv4.Parse Parse4S I2 LqI 1
-- OWES hop4 kedge/ipv4.Hop Hop4S I3 LqI 1
-- OWES build4 kedge/ipv4.Build Build4S I3 LqI 1
end Sp
