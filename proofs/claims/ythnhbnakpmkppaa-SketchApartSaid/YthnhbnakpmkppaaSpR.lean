/- Contracts: the document's answer, layers 1, 2, 4. -/
import Derived.Test.YthnhbnakpmkppaaSpWp
set_option linter.all false
namespace Sp
open Go Go.Proofs Sx Go.Proofs.Ythnhbnakpmkppaa.Ma
def b2i (b : Bool) : Int := if b = true then 1 else 0
def wordsA (a : Ad) : List Bool := toB 64 a.1.toNat ++ toB 64 a.2.1.toNat
def RawS : Con := .pure (Ad × Int) (fun x => [.agg (adV x.1), .i .i64 x.2]) (fun x => wfA x.1 ∧ 0 ≤ x.2 ∧ x.2 < 128) fun x => .i .i64 (b2i ((wordsA x.1).getD x.2.toNat false))
def SaneAS : Con := .pure Ad (fun a => [.agg (adV a)]) wfA fun a => .b (saneA a)
def bitZ (a : Ad) (i : Int) : Int := if 0 ≤ i then b2i ((bitsA a).getD i.toNat false) else 0
def BitS : Con := .pure (Ad × Int) (fun x => [.agg (adV x.1), .i .i64 x.2]) (fun x => wfA x.1) fun x => .i .i64 (bitZ x.1 x.2)
def DigitsS : Con := .row1 Ad (fun a => [.agg (adV a)]) (fun _ => []) 0 wfA intK (fun a => (bitsA a).map b2i) fun _ a => .a a
def OfLS : Con := .look (List Bool) (fun l => [.one (.f 0 l.length)]) (fun l => [.row false intK (l.map b2i)]) (fun l => l.length = 32 ∨ l.length = 128) fun l => .v (.agg (adV (ofB (decide (l.length = 128)) l)))
def SameS : Con := .look (List Rt × List Rt) (fun x => [.one (.f 0 x.1.length), .one (.f 1 x.2.length)]) (fun x => [.row false rtK x.1, .row false rtK x.2]) (fun x => x.1.length ≤ 1000000000 ∧ x.2.length ≤ 1000000000) fun x => .b (decide (x.1 = x.2))
def Rw : List (Nat × Con) := W2
def R0 : List (Nat × Con) := (54, WidthZ) :: Rw
def R1 : List (Nat × Con) := (102, RawS) :: R0
def R2 : List (Nat × Con) := (53, SaneAS) :: (55, BitS) :: (142, DigitsS) :: (146, OfLS) :: R1
def R3 : List (Nat × Con) := (25, SaneZ) :: (101, BytesS) :: (27, SameS) :: R2
def R4 : List (Nat × Con) := (52, PutS) :: R3
def LqR : FuncId → Nat → Lan
  | 53, _ => .inv { X := Int, slots := [3], vals := fun x => [.i .i64 x], fix := [], new := [], drop := [], obs := fun x => [] }
  | 25, _ => .inv { X := Int, slots := [3], vals := fun x => [.i .i64 x], fix := [], new := [], drop := [], obs := fun x => [] }
  | 142, _ => .inv { X := Int × List Int, slots := [4, 3], vals := fun x => [.i .i64 x.1, .a (.f 1 x.2.length)], fix := [], new := [1], drop := [], obs := fun x => [.row true intK x.2] }
  | 146, _ => .inv { X := Int × Int × Int × Bool, slots := [4], vals := fun x => [.i .i64 x.1], fix := [2], new := [], drop := [], obs := fun x => [.cells [.l (.i .u64 x.2.1), .l (.i .u64 x.2.2.1), .l (.b x.2.2.2)]] }
  | 101, _ => .inv { X := Int × List Int, slots := [5], vals := fun x => [.i .i64 x.1], fix := [3], new := [], drop := [], obs := fun x => [.row true u8K x.2] }
  | 27, _ => .inv { X := Int, slots := [5], vals := fun x => [.i .i64 x], fix := [], new := [], drop := [], obs := fun x => [] }
  | _, _ => .none
-- OWES rwidth kedge/kedgeref01.Width WidthZ Rw LqR 0
-- OWES raw kedge/kedgeref01.raw RawS R0 LqR 0
-- OWES rsanea kedge/kedgeref01.Sane SaneAS R1 LqR 0
-- OWES rbit kedge/kedgeref01.Bit BitS R1 LqR 0
-- OWES rdigits kedge/kedgeref01.Digits DigitsS R1 LqR 0
-- OWES rof kedge/kedgeref01.Of OfLS R1 LqR 0
-- OWES rsane kedge/kedgeref02.Sane SaneZ R2 LqR 0
-- OWES rbytes kedge/kedgeref01.Bytes BytesS R2 LqR 0
-- OWES rfrom kedge/kedgeref01.From FromS R2 LqR 0
-- OWES same kedge/kedgeref04.Same SameS R2 LqR 0
-- OWES rput kedge/kedgeref04.Put PutS R3 LqR 0
-- OWES rget kedge/kedgeref04.Get GetS R3 LqR 0
-- OWES rgood kedge/kedgeref04.Good GoodS R3 LqR 0
-- OWES rputroute kedge/kedgeref04.PutRoute PutRouteS R4 LqR 0
-- OWES rgetroute kedge/kedgeref04.GetRoute GetRouteS R4 LqR 0
-- OWES rgetall kedge/kedgeref04.GetAll GetAllS R5 LqR 0
end Sp
