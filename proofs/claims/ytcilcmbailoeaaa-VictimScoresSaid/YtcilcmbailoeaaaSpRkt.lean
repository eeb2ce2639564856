/- Printed by sx.py, a program of this work: what the walks of some functions owe. -/
import Derived.Test.YtcilcmbailoeaaaSpRk
import Derived.ProofKit
set_option linter.all false
set_option maxRecDepth 100000
namespace Sp
open Go Go.Proofs Sx
def T_vsort (key : En → Int) : Prop :=
 ∀ (x : List En),
 x.length ≤ most →
 ∃ (x_1 : List En),
 x.length = x_1.length ∧
 (↑x.length : Int) = (↑x_1.length : Int) ∧
 x = x_1 ∧
 x_1.length ≤ most ∧
 ∀ (y : List En),
 SSR key (0 : Nat) x_1.length x_1 y →
 ∃ (y_1 : List En), SSR key (0 : Nat) x.length x y_1 ∧ y = y_1 ∧ True
theorem o_vsort : owes Try.prog (tab Y2) LqK 0 144 Try.f144 (SortS 140 key1) = T_vsort key1 := by kernel_rfl
theorem o_vsort0 : owes Try.prog (tab Y3) LqK 0 144 Try.f144 (SortS 139 key0) = T_vsort key0 := by kernel_rfl
def T_vch1 : Prop :=
 ∀ (x : Int × List En),
 x.fst = (1 : Int) ∧ x.snd.length ≤ most →
 ifB (decide ((↑x.snd.length : Int) = (0 : Int)))
 (∃ (y : Unit), True ∧ (0 : Int) = (chooseK x.fst x.snd).fst ∧ false = (chooseK x.fst x.snd).snd ∧ True)
 (ifB (decide (x.fst = (1 : Int)))
 (∃ (x_1 : List (Int × Int)),
 x.snd.length = x_1.length ∧
 x.snd = x_1 ∧
 x_1.length ≤ most ∧
 ∀ (y : Unit),
 True →
 ∃ (x_2 : List En),
 x_1.length = x_2.length ∧
 x_1 = x_2 ∧
 x_2.length ≤ most ∧
 ∀ (y : List En),
 y = x_2.reverse →
 ∃ (x_3 : List En),
 x_1.length = x_3.length ∧
 y = x_3 ∧
 x_3.length ≤ most ∧
 ∀ (y : List En),
 SSR key1 (0 : Nat) x_3.length x_3 y →
 ((0 : Int) ≤ (0 : Int) ∧ (0 : Int) < (↑x_1.length : Int)) ∧
 ∃ (y_1 : Unit),
 True ∧
 (y.getD (0 : Nat) ((0 : Int), (0 : Int))).fst =
 (chooseK x.fst x.snd).fst ∧
 true = (chooseK x.fst x.snd).snd ∧ True)
 (∃ (x_1 : List (Int × Int)),
 x.snd.length = x_1.length ∧
 x.snd = x_1 ∧
 x_1.length ≤ most ∧
 ∀ (y : Unit),
 True →
 ∃ (x : List En),
 x_1.length = x.length ∧
 x_1 = x ∧
 x.length ≤ most ∧
 ∀ (y : List En), y = x.reverse → ∃ (x : List En), x_1.length = x.length ∧ False))
theorem o_vch1 : owes Try.prog (tab S1) LqK 3 91 Try.f91 (ChooseP (· = 1)) = T_vch1 := by kernel_rfl
def T_vch0 : Prop :=
 ∀ (x : Int × List En),
 x.fst ≠ (1 : Int) ∧ x.snd.length ≤ most →
 ifB (decide ((↑x.snd.length : Int) = (0 : Int)))
 (∃ (y : Unit), True ∧ (0 : Int) = (chooseK x.fst x.snd).fst ∧ false = (chooseK x.fst x.snd).snd ∧ True)
 (ifB (decide (x.fst = (1 : Int)))
 (∃ (x_1 : List (Int × Int)),
 x.snd.length = x_1.length ∧
 x.snd = x_1 ∧
 x_1.length ≤ most ∧
 ∀ (y : Unit),
 True →
 ∃ (x : List En),
 x_1.length = x.length ∧
 x_1 = x ∧
 x.length ≤ most ∧
 ∀ (y : List En), y = x.reverse → ∃ (x : List En), x_1.length = x.length ∧ False)
 (∃ (x_1 : List (Int × Int)),
 x.snd.length = x_1.length ∧
 x.snd = x_1 ∧
 x_1.length ≤ most ∧
 ∀ (y : Unit),
 True →
 ∃ (x_2 : List En),
 x_1.length = x_2.length ∧
 x_1 = x_2 ∧
 x_2.length ≤ most ∧
 ∀ (y : List En),
 y = x_2.reverse →
 ∃ (x_3 : List En),
 x_1.length = x_3.length ∧
 y = x_3 ∧
 x_3.length ≤ most ∧
 ∀ (y : List En),
 SSR key0 (0 : Nat) x_3.length x_3 y →
 ((0 : Int) ≤ (0 : Int) ∧ (0 : Int) < (↑x_1.length : Int)) ∧
 ∃ (y_1 : Unit),
 True ∧
 (y.getD (0 : Nat) ((0 : Int), (0 : Int))).fst =
 (chooseK x.fst x.snd).fst ∧
 true = (chooseK x.fst x.snd).snd ∧ True))
theorem o_vch0 : owes Try.prog (tab S0) LqK 3 91 Try.f91 (ChooseP (· ≠ 1)) = T_vch0 := by kernel_rfl
def T_vrk1 : Prop :=
 ∀ (x : Int × List En),
 x.fst = (1 : Int) ∧ x.snd.length ≤ most →
 ifB (decide (x.fst = (1 : Int)))
 (∃ (x_1 : List (Int × Int)),
 x.snd.length = x_1.length ∧
 x.snd = x_1 ∧
 x_1.length ≤ most ∧
 ∀ (y : Unit),
 True →
 ∃ (x_2 : List En),
 x_1.length = x_2.length ∧
 x_1 = x_2 ∧
 x_2.length ≤ most ∧
 ∀ (y : List En),
 y = x_2.reverse →
 ∃ (x_3 : List En),
 x_1.length = x_3.length ∧
 y = x_3 ∧
 x_3.length ≤ most ∧
 ∀ (y : List En),
 SSR key1 (0 : Nat) x_3.length x_3 y →
 ∃ (I : Int × List Int → Prop),
 ∃ (μ : Int × List Int → Nat),
 (∃ (x : Int × List Int),
 I x ∧
 (0 : Int) = x.fst ∧ (0 : Nat) = x.snd.length ∧ [] = x.snd ∧ True) ∧
 ∀ (x_4 : Int × List Int),
 I x_4 →
 ifB (decide (x_4.fst < (↑x_1.length : Int)))
 (((0 : Int) ≤ x_4.fst ∧ x_4.fst < (↑x_1.length : Int)) ∧
 ((x_4.snd.length +
 [(y.getD x_4.fst.toNat
 ((0 : Int), (0 : Int))).fst].length) *
 (8 : Nat) ≤
 (140737488355328 : Nat) ∧
 x_4.snd.length +
 [(y.getD x_4.fst.toNat
 ((0 : Int), (0 : Int))).fst].length ≤
 (140737488355328 : Nat)) ∧
 ((-9223372036854775808 : Int) ≤ x_4.fst + (1 : Int) ∧
 x_4.fst + (1 : Int) ≤ (9223372036854775807 : Int)) ∧
 ∃ (y_1 : Int × List Int),
 I y_1 ∧
 μ y_1 < μ x_4 ∧
 x_4.fst + (1 : Int) = y_1.fst ∧
 x_4.snd.length +
 [(y.getD x_4.fst.toNat
 ((0 : Int), (0 : Int))).fst].length =
 y_1.snd.length ∧
 x_4.snd ++
 [(y.getD x_4.fst.toNat
 ((0 : Int), (0 : Int))).fst] =
 y_1.snd ∧
 True)
 (∃ (y : Unit),
 True ∧
 x_4.snd.length =
 (List.map (fun (x : En) => x.fst)
 (rankK x.fst x.snd)).length ∧
 x_4.snd =
 List.map (fun (x : En) => x.fst) (rankK x.fst x.snd) ∧
 True))
 (∃ (x_1 : List (Int × Int)),
 x.snd.length = x_1.length ∧
 x.snd = x_1 ∧
 x_1.length ≤ most ∧
 ∀ (y : Unit),
 True →
 ∃ (x : List En),
 x_1.length = x.length ∧
 x_1 = x ∧
 x.length ≤ most ∧
 ∀ (y : List En), y = x.reverse → ∃ (x : List En), x_1.length = x.length ∧ False)
theorem o_vrk1 : owes Try.prog (tab S1) LqK 3 94 Try.f94 (RankP (· = 1)) = T_vrk1 := by kernel_rfl
def T_vrk0 : Prop :=
 ∀ (x : Int × List En),
 x.fst ≠ (1 : Int) ∧ x.snd.length ≤ most →
 ifB (decide (x.fst = (1 : Int)))
 (∃ (x_1 : List (Int × Int)),
 x.snd.length = x_1.length ∧
 x.snd = x_1 ∧
 x_1.length ≤ most ∧
 ∀ (y : Unit),
 True →
 ∃ (x : List En),
 x_1.length = x.length ∧
 x_1 = x ∧
 x.length ≤ most ∧
 ∀ (y : List En), y = x.reverse → ∃ (x : List En), x_1.length = x.length ∧ False)
 (∃ (x_1 : List (Int × Int)),
 x.snd.length = x_1.length ∧
 x.snd = x_1 ∧
 x_1.length ≤ most ∧
 ∀ (y : Unit),
 True →
 ∃ (x_2 : List En),
 x_1.length = x_2.length ∧
 x_1 = x_2 ∧
 x_2.length ≤ most ∧
 ∀ (y : List En),
 y = x_2.reverse →
 ∃ (x_3 : List En),
 x_1.length = x_3.length ∧
 y = x_3 ∧
 x_3.length ≤ most ∧
 ∀ (y : List En),
 SSR key0 (0 : Nat) x_3.length x_3 y →
 ∃ (I : Int × List Int → Prop),
 ∃ (μ : Int × List Int → Nat),
 (∃ (x : Int × List Int),
 I x ∧
 (0 : Int) = x.fst ∧ (0 : Nat) = x.snd.length ∧ [] = x.snd ∧ True) ∧
 ∀ (x_4 : Int × List Int),
 I x_4 →
 ifB (decide (x_4.fst < (↑x_1.length : Int)))
 (((0 : Int) ≤ x_4.fst ∧ x_4.fst < (↑x_1.length : Int)) ∧
 ((x_4.snd.length +
 [(y.getD x_4.fst.toNat
 ((0 : Int), (0 : Int))).fst].length) *
 (8 : Nat) ≤
 (140737488355328 : Nat) ∧
 x_4.snd.length +
 [(y.getD x_4.fst.toNat
 ((0 : Int), (0 : Int))).fst].length ≤
 (140737488355328 : Nat)) ∧
 ((-9223372036854775808 : Int) ≤ x_4.fst + (1 : Int) ∧
 x_4.fst + (1 : Int) ≤ (9223372036854775807 : Int)) ∧
 ∃ (y_1 : Int × List Int),
 I y_1 ∧
 μ y_1 < μ x_4 ∧
 x_4.fst + (1 : Int) = y_1.fst ∧
 x_4.snd.length +
 [(y.getD x_4.fst.toNat
 ((0 : Int), (0 : Int))).fst].length =
 y_1.snd.length ∧
 x_4.snd ++
 [(y.getD x_4.fst.toNat
 ((0 : Int), (0 : Int))).fst] =
 y_1.snd ∧
 True)
 (∃ (y : Unit),
 True ∧
 x_4.snd.length =
 (List.map (fun (x : En) => x.fst)
 (rankK x.fst x.snd)).length ∧
 x_4.snd =
 List.map (fun (x : En) => x.fst) (rankK x.fst x.snd) ∧
 True))
theorem o_vrk0 : owes Try.prog (tab S0) LqK 3 94 Try.f94 (RankP (· ≠ 1)) = T_vrk0 := by kernel_rfl
end Sp
