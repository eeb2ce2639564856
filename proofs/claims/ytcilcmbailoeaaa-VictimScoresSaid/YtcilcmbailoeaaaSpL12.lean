/- Contracts: the document's answers and the laws of layer 12. -/
import Derived.Test.YtcilcmbailoeaaaSpRkp
set_option linter.all false
namespace Sp
open Go Go.Proofs Sx Go.Proofs.Ytcilcmbailoeaaa.Ma
/-- The one that has to go, of some: the last of those whose key is the least. -/
def WhereR (pol : Int) (l : List En) (at' : Int) : Prop := (l = [] ∧ at' = -1) ∨ (0 ≤ at' ∧ at' < l.length ∧ (∀ i, i < l.length → keyOf pol (l.getD at'.toNat (0, 0)) ≤ keyOf pol (l.getD i (0, 0))) ∧ ∀ i : Nat, at' < i → i < l.length → keyOf pol (l.getD at'.toNat (0, 0)) < keyOf pol (l.getD i (0, 0)))
def Where12 : Con := { X := Int × List En, args := fun x => [.i .i64 x.1, .one (.f 0 x.2.length)], heap := fun x => [.row false enK x.2], pre := fun x => x.2.length ≤ most, outs := [{ Y := Int, post := fun x y => WhereR x.1 x.2 y, res := fun _ y => .i .i64 y, out := fun _ _ => [], nn := 0 }] }
def IntsS : Con := .look (List Int × List Int) (fun x => [.one (.f 0 x.1.length), .one (.f 1 x.2.length)]) (fun x => [.row false intK x.1, .row false intK x.2]) (fun x => x.1.length ≤ most) fun x => .b (decide (x.1 = x.2))
def OursS : Con := .row1 (List En) (fun l => [.one (.f 0 l.length)]) (fun l => [.row false enK l]) 1 (fun l => l.length ≤ most) enK (fun l => l) fun _ a => .a a
def VicIsL : Con := .look (Int × List En) (fun x => [.i .i64 x.1, .one (.f 0 x.2.length)]) (fun x => [.row false enK x.2]) (fun _ => True) fun _ => .b true
def VicLightL : Con := .look (List En) (fun x => [.one (.f 0 x.length)]) (fun x => [.row false enK x]) (fun _ => True) fun _ => .b true
def VicAwake : Con := .pure Unit (fun _ => []) (fun _ => True) fun _ => .b true
def VT0 : List (Nat × Con) := [(91, ChooseP fun _ => True), (94, RankP fun _ => True)]
def VT1 : List (Nat × Con) := (131, Where12) :: (93, IntsS) :: (90, OursS) :: (89, VicAwake) :: VT0
def VT2 : List (Nat × Con) := (92, ChooseP fun _ => True) :: (95, RankP fun _ => True) :: VT1
@[reducible] def rowsAnn (slots fix : List Nat) (X : Type) (vals : X → List R) (obs : X → List Ob) : Lan := .inv { X := X, slots := slots, vals := vals, fix := fix, new := [], drop := [], obs := obs }
def LqVL : FuncId → Nat → Lan
  | 131, _ => numAnn [5, 6] (Int × Int) fun x => [.i .i64 x.1, .i .i64 x.2]
  | 93, _ => numAnn [5] Int fun x => [.i .i64 x]
  | 90, _ => .inv { X := Int × List En, slots := [4, 3], vals := fun x => [.i .i64 x.1, .a (.f 20 x.2.length)], fix := [], new := [20], drop := [], obs := fun x => [.row true enK x.2] }
  | 95, _ => .inv { X := List En × List Int, slots := [6, 5], vals := fun x => [.a (.f 20 x.1.length), .a (.f 21 x.2.length)], fix := [], new := [20, 21], drop := [2], obs := fun x => [.row true enK x.1, .row true intK x.2] }
  | 27, 0 => rowsAnn [5] [2] (Int × List En) (fun x => [.i .i64 x.1]) fun x => [.row true enK x.2]
  | 27, _ => numAnn [8] Int fun x => [.i .i64 x]
  | 29, 0 => rowsAnn [7] [2] (Int × List En) (fun x => [.i .i64 x.1]) fun x => [.row true enK x.2]
  | 29, _ => rowsAnn [10] [7] (Int × List Bool) (fun x => [.i .i64 x.1]) fun x => [.row true [.b] x.2]
  | 30, _ => rowsAnn [6] [2, 4] (Int × List En × List En) (fun x => [.i .i64 x.1]) fun x => [.row true enK x.2.1, .row true enK x.2.2]
  | _, _ => .none
-- OWES where12 kedge/kedgeref12.where Where12 VT0 LqVL 0
-- OWES ints kedge/kedgeref09.Ints IntsS VT0 LqVL 0
-- OWES ours12 kedge/kedgelaw12.ours OursS VT0 LqVL 0
-- OWES awake12 kedge/kedgelaw12.awake VicAwake VT0 LqVL 0
-- OWES choose12 kedge/kedgeref12.Choose (ChooseP_fun_x_=>_True) VT1 LqVL 0
-- OWES rank12 kedge/kedgeref12.Rank (RankP_fun_x_=>_True) VT1 LqVL 0
-- OWES vicis kedge/kedgelaw12.VictimIs VicIsL VT2 LqVL 0
-- OWES viclight kedge/kedgelaw12.VictimLight VicLightL VT2 LqVL 0
-- OWES vicrank kedge/kedgelaw12.VictimRank VicIsL VT2 LqVL 0
-- OWES vicscores kedge/kedgelaw12.VictimScores VicLightL VT2 LqVL 0
end Sp
