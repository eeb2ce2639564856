/- Contracts: bytes of addresses, prefixes and routes. -/
import Derived.Test.YthnhbnakpmkppaaSpAp
import Derived.Test.YthnhbnakpmkppaaSpWire
set_option linter.all false
namespace Sp
open Go Go.Proofs Sx Go.Proofs.Ythnhbnakpmkppaa.Ma
@[reducible] def adV (a : Ad) : List A := [.l (.i .u64 a.1), .l (.i .u64 a.2.1), .l (.b a.2.2)]
@[reducible] def pfV (p : Pf) : List A := [.l (.i .u64 p.1), .l (.i .u64 p.2.1), .l (.b p.2.2.1), .l (.i .i64 p.2.2.2)]
@[reducible] def rtV (r : Rt) : List A := [.l (.i .u64 r.1), .l (.i .u64 r.2.1), .l (.b r.2.2.1), .l (.i .i64 r.2.2.2.1), .l (.i .i64 r.2.2.2.2)]
@[reducible] def u8K : List Kd := [.i .u8]
@[reducible] def intK : List Kd := [.i .i64]
@[reducible] def rtK : List Kd := [.i .u64, .i .u64, .b, .i .i64, .i .i64]
def most : Nat := 1000000
def MaskZ : Con := .pure (Ad × Int) (fun x => [.agg (adV x.1), .i .i64 x.2]) (fun x => wfA x.1) fun x => .v (.agg (adV (maskA x.1 x.2)))
def ReadZ : Con := .pure Ad (fun a => [.agg (adV a)]) wfA fun a => .v (.agg [.l (.i .u64 (canA a).1), .l (.i .u64 (canA a).2.1)])
def OfZ : Con := .pure (Ad × Int) (fun x => [.agg (adV x.1), .i .i64 x.2]) (fun x => wfA x.1) fun x => .v (.agg (pfV (ofPf x.1 x.2)))
def SaneZ : Con := .pure Pf (fun p => [.agg (pfV p)]) wfP fun p => .b (saneP p)
def WidthZ : Con := .pure Bool (fun b => [.b b]) (fun _ => True) fun b => .i .i64 (wd b : Int)
def BytesS : Con := .row1 Ad (fun a => [.agg (adV a)]) (fun _ => []) 0 wfA u8K bytesA fun _ a => .a a
def fromE (b : List Int) : Ad × Int := if b.length = 4 ∨ b.length = 16 then (fromL b, 0) else ((0, 0, false), 4)
def FromS : Con := .look (List Int) (fun b => [.one (.f 0 b.length)]) (fun b => [.row false u8K b]) okB fun b => .tup [.agg (adV (fromE b).1), .i .i64 (fromE b).2]
def CloneS (ks : List Kd) : Con := .row1 (List (Tup ks)) (fun b => [.one (.f 0 b.length)]) (fun b => [.row false ks b]) 1 (fun b => b.length ≤ most) ks (fun b => b) fun _ a => .a a
def PutS : Con := .row1 (List Int × Pf) (fun x => [.one (.f 0 x.1.length), .agg (pfV x.2)]) (fun x => [.row false u8K x.1]) 1 (fun x => x.1.length ≤ most ∧ wfP x.2) u8K (fun x => x.1 ++ putP x.2) fun _ a => .a a
def GetS : Con := .look (List Int) (fun b => [.one (.f 0 b.length)]) (fun b => [.row false u8K b]) (fun b => okB b ∧ b.length ≤ most) fun b => .tup [.agg (pfV (getP b).1), .i .i64 (getP b).2.1, .i .i64 (getP b).2.2]
def wfR (r : Rt) : Prop := wfP (rP r)
def GoodS : Con := .pure Rt (fun r => [.agg (rtV r)]) wfR fun r => .b (goodR r)
def PutRouteS : Con := .row1 (List Int × Rt) (fun x => [.one (.f 0 x.1.length), .agg (rtV x.2)]) (fun x => [.row false u8K x.1]) 1 (fun x => x.1.length ≤ most ∧ wfR x.2) u8K (fun x => x.1 ++ putR x.2) fun _ a => .a a
def GetRouteS : Con := .look (List Int) (fun b => [.one (.f 0 b.length)]) (fun b => [.row false u8K b]) (fun b => okB b ∧ b.length ≤ most) fun b => .tup [.agg (rtV (getR b).1), .i .i64 (getR b).2.1, .i .i64 (getR b).2.2]
def PutAllS : Con := .row1 (List Rt) (fun l => [.one (.f 0 l.length)]) (fun l => [.row false rtK l]) 1 (fun l => l.length ≤ 5000 ∧ ∀ r ∈ l, wfR r) u8K putAllL fun _ a => .a a
def GetAllS : Con := .row1 (List Int) (fun b => [.one (.f 0 b.length)]) (fun b => [.row false u8K b]) 1 (fun b => okB b ∧ b.length ≤ most) rtK (fun b => (getAllL b).1) fun b a => .tup [.one a, .i .i64 (getAllL b).2]
def W0 : List (Nat × Con) := [(70, SaneZ), (57, OfZ), (105, MaskZ), (124, ReadZ), (104, WidthZ)]
def W1 : List (Nat × Con) := (99, BytesS) :: (56, FromS) :: (98, CloneS u8K) :: W0
def W2 : List (Nat × Con) := (51, PutS) :: (87, GoodS) :: W1
def LqW : FuncId → Nat → Lan
  | 99, _ => .inv { X := Int × List Int, slots := [16], vals := fun x => [.i .i64 x.1], fix := [5], new := [], drop := [], obs := fun x => [.row true u8K x.2] }
  | 56, _ => .inv { X := Int × Int × Int, slots := [22], vals := fun x => [.i .i64 x.1], fix := [2], new := [], drop := [], obs := fun x => [.cells [.l (.i .u64 x.2.1), .l (.i .u64 x.2.2)]] }
  | _, _ => .none
-- OWES bytes kedge/addr.Bytes BytesS W0 LqW 0
-- OWES from kedge/addr.From FromS W0 LqW 1
-- OWES clone slices.Clone[[]byte,byte] (CloneS_u8K) W0 LqW 0
-- OWES put kedge/wire.Put PutS W1 LqW 1
-- OWES get kedge/wire.Get GetS W1 LqW 1
-- OWES good kedge/wire.Good GoodS W1 LqW 0
-- OWES putroute kedge/wire.PutRoute PutRouteS W2 LqW 0
-- OWES getroute kedge/wire.GetRoute GetRouteS W2 LqW 0
-- OWES putall kedge/wire.PutAll PutAllS W3 LqW 0
-- OWES getall kedge/wire.GetAll GetAllS W3 LqW 1
end Sp
