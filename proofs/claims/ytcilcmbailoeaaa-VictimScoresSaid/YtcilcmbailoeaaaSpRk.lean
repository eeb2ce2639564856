/- Contracts: which one has to go, and in which order. -/
import Derived.Test.YtcilcmbailoeaaaSpZp
set_option linter.all false
namespace Sp
open Go Go.Proofs Sx Go.Proofs.Ytcilcmbailoeaaa.Ma
/-- Put in order, stably. -/
def insK (key : En → Int) (x : En) : List En → List En
  | [] => [x]
  | y :: l => if key x ≤ key y then x :: y :: l else y :: insK key x l
def isK (key : En → Int) : List En → List En
  | [] => []
  | x :: l => insK key x (isK key l)
def keyOf (pol : Int) : En → Int := if pol = 1 then key1 else key0
def rankK (pol : Int) (l : List En) : List En := isK (keyOf pol) l.reverse
def chooseK (pol : Int) (l : List En) : Int × Bool := match rankK pol l with
  | [] => (0, false)
  | e :: _ => (e.1, true)
def ChooseP (p : Int → Prop) : Con := .look (Int × List En) (fun x => [.i .i64 x.1, .one (.f 0 x.2.length)]) (fun x => [.row false enK x.2]) (fun x => p x.1 ∧ x.2.length ≤ most) fun x => .tup [.i .i64 (chooseK x.1 x.2).1, .b (chooseK x.1 x.2).2]
def RankP (p : Int → Prop) : Con := .row1 (Int × List En) (fun x => [.i .i64 x.1, .one (.f 0 x.2.length)]) (fun x => [.row false enK x.2]) 1 (fun x => p x.1 ∧ x.2.length ≤ most) intK (fun x => (rankK x.1 x.2).map (·.1)) fun _ a => .a a
def Y2 : List (Nat × Con) := (147, StabS 140 key1) :: V1
def Y3 : List (Nat × Con) := (147, StabS 139 key0) :: V1
def S1 : List (Nat × Con) := (144, SortS 140 key1) :: V1
def S0 : List (Nat × Con) := (144, SortS 139 key0) :: V1
def LqK : FuncId → Nat → Lan
  | 94, _ => .inv { X := Int × List Int, slots := [13, 5], vals := fun x => [.i .i64 x.1, .a (.f 20 x.2.length)], fix := [], new := [20], drop := [], obs := fun x => [.row true intK x.2] }
  | _, _ => .none
-- GEN vsort key1 key (key : En → Int)
-- SAMEAS vsort0 vsort key0 slices.SortStableFunc[[]kedge/victim.Entry,kedge/victim.Entry] (SortS_139_key0) Y3 LqK 0
-- OWES vsort slices.SortStableFunc[[]kedge/victim.Entry,kedge/victim.Entry] (SortS_140_key1) Y2 LqK 0
-- OWES vch1 kedge/victim.Choose (ChooseP_(·_=_1)) S1 LqK 3
-- OWES vch0 kedge/victim.Choose (ChooseP_(·_≠_1)) S0 LqK 3
-- OWES vrk1 kedge/victim.Rank (RankP_(·_=_1)) S1 LqK 3
-- OWES vrk0 kedge/victim.Rank (RankP_(·_≠_1)) S0 LqK 3
end Sp
