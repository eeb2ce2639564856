/- Printed by sx.py, a program of this work: what the walks of some functions owe. -/
import Derived.Test.YtcilcmbailoeaaaSpL12
import Derived.ProofKit
set_option linter.all false
set_option maxRecDepth 100000
namespace Sp
open Go Go.Proofs Sx
def T_where12 : Prop :=
 ∀ (x : Int × List En),
 x.snd.length ≤ most →
 ((-9223372036854775808 : Int) ≤ (↑x.snd.length : Int) - (1 : Int) ∧
 (↑x.snd.length : Int) - (1 : Int) ≤ (9223372036854775807 : Int)) ∧
 ((-9223372036854775808 : Int) ≤ (↑x.snd.length : Int) - (1 : Int) ∧
 (↑x.snd.length : Int) - (1 : Int) ≤ (9223372036854775807 : Int)) ∧
 ∃ (I : Int × Int → Prop),
 ∃ (μ : Int × Int → Nat),
 (∃ (x_1 : Int × Int),
 I x_1 ∧
 (↑x.snd.length : Int) - (1 : Int) = x_1.fst ∧ (↑x.snd.length : Int) - (1 : Int) = x_1.snd ∧ True) ∧
 ∀ (x_1 : Int × Int),
 I x_1 →
 ifB (decide ((0 : Int) ≤ x_1.snd))
 (ifB (decide (x.fst = (1 : Int)))
 (((0 : Int) ≤ x_1.snd ∧ x_1.snd < (↑x.snd.length : Int)) ∧
 ((0 : Int) ≤ x_1.fst ∧ x_1.fst < (↑x.snd.length : Int)) ∧
 ifB
 (decide
 ((x.snd.getD x_1.snd.toNat ((0 : Int), (0 : Int))).snd <
 (x.snd.getD x_1.fst.toNat ((0 : Int), (0 : Int))).snd))
 (((-9223372036854775808 : Int) ≤ x_1.snd - (1 : Int) ∧
 x_1.snd - (1 : Int) ≤ (9223372036854775807 : Int)) ∧
 ∃ (y : Int × Int),
 I y ∧ μ y < μ x_1 ∧ x_1.snd = y.fst ∧ x_1.snd - (1 : Int) = y.snd ∧ True)
 (((-9223372036854775808 : Int) ≤ x_1.snd - (1 : Int) ∧
 x_1.snd - (1 : Int) ≤ (9223372036854775807 : Int)) ∧
 ∃ (y : Int × Int),
 I y ∧ μ y < μ x_1 ∧ x_1.fst = y.fst ∧ x_1.snd - (1 : Int) = y.snd ∧ True))
 (∃ (y : Int),
 (x.snd = [] ∧ y = (-1 : Int) ∨
 (0 : Int) ≤ y ∧
 y < (↑x.snd.length : Int) ∧
 (∀ (i : Nat),
 i < x.snd.length →
 Sp.keyOf x.fst (x.snd.getD y.toNat ((0 : Int), (0 : Int))) ≤
 Sp.keyOf x.fst (x.snd.getD i ((0 : Int), (0 : Int)))) ∧
 ∀ (i : Nat),
 y < (↑i : Int) →
 i < x.snd.length →
 Sp.keyOf x.fst (x.snd.getD y.toNat ((0 : Int), (0 : Int))) <
 Sp.keyOf x.fst (x.snd.getD i ((0 : Int), (0 : Int)))) ∧
 x_1.fst = y ∧ True))
 (∃ (y : Int),
 (x.snd = [] ∧ y = (-1 : Int) ∨
 (0 : Int) ≤ y ∧
 y < (↑x.snd.length : Int) ∧
 (∀ (i : Nat),
 i < x.snd.length →
 Sp.keyOf x.fst (x.snd.getD y.toNat ((0 : Int), (0 : Int))) ≤
 Sp.keyOf x.fst (x.snd.getD i ((0 : Int), (0 : Int)))) ∧
 ∀ (i : Nat),
 y < (↑i : Int) →
 i < x.snd.length →
 Sp.keyOf x.fst (x.snd.getD y.toNat ((0 : Int), (0 : Int))) <
 Sp.keyOf x.fst (x.snd.getD i ((0 : Int), (0 : Int)))) ∧
 x_1.fst = y ∧ True)
theorem o_where12 : owes Try.prog (tab VT0) LqVL 0 131 Try.f131 Where12 = T_where12 := by kernel_rfl
def T_ints : Prop :=
 ∀ (x : List Int × List Int),
 x.fst.length ≤ most →
 ifB (!decide ((↑x.fst.length : Int) = (↑x.snd.length : Int)))
 (∃ (y : Unit), True ∧ false = decide (x.fst = x.snd) ∧ True)
 (∃ (I : Int → Prop),
 ∃ (μ : Int → Nat),
 (∃ (x : Int), I x ∧ (0 : Int) = x ∧ True) ∧
 ∀ (x_1 : Int),
 I x_1 →
 ifB (decide (x_1 < (↑x.fst.length : Int)))
 (((0 : Int) ≤ x_1 ∧ x_1 < (↑x.fst.length : Int)) ∧
 ((0 : Int) ≤ x_1 ∧ x_1 < (↑x.snd.length : Int)) ∧
 ifB (!decide (x.fst.getD x_1.toNat (0 : Int) = x.snd.getD x_1.toNat (0 : Int)))
 (∃ (y : Unit), True ∧ false = decide (x.fst = x.snd) ∧ True)
 (((-9223372036854775808 : Int) ≤ x_1 + (1 : Int) ∧
 x_1 + (1 : Int) ≤ (9223372036854775807 : Int)) ∧
 ∃ (y : Int), I y ∧ μ y < μ x_1 ∧ x_1 + (1 : Int) = y ∧ True))
 (∃ (y : Unit), True ∧ true = decide (x.fst = x.snd) ∧ True))
theorem o_ints : owes Try.prog (tab VT0) LqVL 0 93 Try.f93 IntsS = T_ints := by kernel_rfl
def T_ours12 : Prop :=
 ∀ (x : List En),
 x.length ≤ most →
 ∃ (I : Int × List En → Prop),
 ∃ (μ : Int × List En → Nat),
 (∃ (x : Int × List En), I x ∧ (0 : Int) = x.fst ∧ (0 : Nat) = x.snd.length ∧ [] = x.snd ∧ True) ∧
 ∀ (x_1 : Int × List En),
 I x_1 →
 ifB (decide (x_1.fst < (↑x.length : Int)))
 (((0 : Int) ≤ x_1.fst ∧ x_1.fst < (↑x.length : Int)) ∧
 ((0 : Int) ≤ x_1.fst ∧ x_1.fst < (↑x.length : Int)) ∧
 ((x_1.snd.length +
 [((x.getD x_1.fst.toNat ((0 : Int), (0 : Int))).fst,
 (x.getD x_1.fst.toNat ((0 : Int), (0 : Int))).snd)].length) *
 (16 : Nat) ≤
 (140737488355328 : Nat) ∧
 x_1.snd.length +
 [((x.getD x_1.fst.toNat ((0 : Int), (0 : Int))).fst,
 (x.getD x_1.fst.toNat ((0 : Int), (0 : Int))).snd)].length ≤
 (140737488355328 : Nat)) ∧
 ((-9223372036854775808 : Int) ≤ x_1.fst + (1 : Int) ∧
 x_1.fst + (1 : Int) ≤ (9223372036854775807 : Int)) ∧
 ∃ (y : Int × List En),
 I y ∧
 μ y < μ x_1 ∧
 x_1.fst + (1 : Int) = y.fst ∧
 x_1.snd.length +
 [((x.getD x_1.fst.toNat ((0 : Int), (0 : Int))).fst,
 (x.getD x_1.fst.toNat ((0 : Int), (0 : Int))).snd)].length =
 y.snd.length ∧
 x_1.snd ++
 [((x.getD x_1.fst.toNat ((0 : Int), (0 : Int))).fst,
 (x.getD x_1.fst.toNat ((0 : Int), (0 : Int))).snd)] =
 y.snd ∧
 True)
 (∃ (y : Unit), True ∧ x_1.snd.length = x.length ∧ x_1.snd = x ∧ True)
theorem o_ours12 : owes Try.prog (tab VT0) LqVL 0 90 Try.f90 OursS = T_ours12 := by kernel_rfl
def T_awake12 : Prop :=
 ∀ (x : Unit),
 True →
 ∃ (x : Int × List En),
 (1 : Int) = x.fst ∧
 (4 : Nat) = x.snd.length ∧
 [((10 : Int), (3 : Int)), ((11 : Int), (1 : Int)), ((12 : Int), (1 : Int)), ((13 : Int), (2 : Int))] = x.snd ∧
 (True ∧ x.snd.length ≤ most) ∧
 ∀ (y : Unit),
 True →
 ∃ (x_1 : Int × List En),
 (0 : Int) = x_1.fst ∧
 (2 : Nat) = x_1.snd.length ∧
 [((10 : Int), (3 : Int)), ((11 : Int), (5 : Int))] = x_1.snd ∧
 (True ∧ x_1.snd.length ≤ most) ∧
 ∀ (y : Unit),
 True →
 ifB (chooseK x.fst x.snd).snd
 (ifB (chooseK x_1.fst x_1.snd).snd
 (ifB (decide ((chooseK x.fst x.snd).fst = (12 : Int)))
 (∃ (y : Unit),
 True ∧ decide ((chooseK x_1.fst x_1.snd).fst = (11 : Int)) = true ∧ True)
 (∃ (y : Unit), True ∧ false = true ∧ True))
 (∃ (y : Unit), True ∧ false = true ∧ True))
 (∃ (y : Unit), True ∧ false = true ∧ True)
theorem o_awake12 : owes Try.prog (tab VT0) LqVL 0 89 Try.f89 VicAwake = T_awake12 := by kernel_rfl
def T_choose12 : Prop :=
 ∀ (x : Int × List En),
 True ∧ x.snd.length ≤ most →
 ∃ (x_1 : Int × List En),
 x.fst = x_1.fst ∧
 x.snd.length = x_1.snd.length ∧
 x.snd = x_1.snd ∧
 x_1.snd.length ≤ most ∧
 ∀ (y : Int),
 (x_1.snd = [] ∧ y = (-1 : Int) ∨
 (0 : Int) ≤ y ∧
 y < (↑x_1.snd.length : Int) ∧
 (∀ (i : Nat),
 i < x_1.snd.length →
 Sp.keyOf x_1.fst (x_1.snd.getD y.toNat ((0 : Int), (0 : Int))) ≤
 Sp.keyOf x_1.fst (x_1.snd.getD i ((0 : Int), (0 : Int)))) ∧
 ∀ (i : Nat),
 y < (↑i : Int) →
 i < x_1.snd.length →
 Sp.keyOf x_1.fst (x_1.snd.getD y.toNat ((0 : Int), (0 : Int))) <
 Sp.keyOf x_1.fst (x_1.snd.getD i ((0 : Int), (0 : Int)))) →
 ifB (decide (y < (0 : Int)))
 (∃ (y : Unit),
 True ∧ (0 : Int) = (chooseK x.fst x.snd).fst ∧ false = (chooseK x.fst x.snd).snd ∧ True)
 (((0 : Int) ≤ y ∧ y < (↑x.snd.length : Int)) ∧
 ∃ (y_1 : Unit),
 True ∧
 (x.snd.getD y.toNat ((0 : Int), (0 : Int))).fst = (chooseK x.fst x.snd).fst ∧
 true = (chooseK x.fst x.snd).snd ∧ True)
theorem o_choose12 : owes Try.prog (tab VT1) LqVL 0 92 Try.f92 (ChooseP fun x => True) = T_choose12 := by kernel_rfl
def T_rank12 : Prop :=
 ∀ (x : Int × List En),
 True ∧ x.snd.length ≤ most →
 (((0 : Nat) + x.snd.length) * (16 : Nat) ≤ (140737488355328 : Nat) ∧
 (0 : Nat) + x.snd.length ≤ (140737488355328 : Nat)) ∧
 ∃ (I : List En × List Int → Prop),
 ∃ (μ : List En × List Int → Nat),
 (∃ (x_1 : List En × List Int),
 I x_1 ∧
 (0 : Nat) + x.snd.length = x_1.fst.length ∧
 (0 : Nat) = x_1.snd.length ∧ [] ++ x.snd = x_1.fst ∧ [] = x_1.snd ∧ True) ∧
 ∀ (x_1 : List En × List Int),
 I x_1 →
 ifB (decide ((0 : Int) < (↑x_1.fst.length : Int)))
 (∃ (x_2 : Int × List En),
 x.fst = x_2.fst ∧
 x_1.fst.length = x_2.snd.length ∧
 x_1.fst = x_2.snd ∧
 x_2.snd.length ≤ most ∧
 ∀ (y : Int),
 (x_2.snd = [] ∧ y = (-1 : Int) ∨
 (0 : Int) ≤ y ∧
 y < (↑x_2.snd.length : Int) ∧
 (∀ (i : Nat),
 i < x_2.snd.length →
 Sp.keyOf x_2.fst (x_2.snd.getD y.toNat ((0 : Int), (0 : Int))) ≤
 Sp.keyOf x_2.fst (x_2.snd.getD i ((0 : Int), (0 : Int)))) ∧
 ∀ (i : Nat),
 y < (↑i : Int) →
 i < x_2.snd.length →
 Sp.keyOf x_2.fst (x_2.snd.getD y.toNat ((0 : Int), (0 : Int))) <
 Sp.keyOf x_2.fst (x_2.snd.getD i ((0 : Int), (0 : Int)))) →
 ((0 : Int) ≤ y ∧ y < (↑x_1.fst.length : Int)) ∧
 ((x_1.snd.length + [(x_1.fst.getD y.toNat ((0 : Int), (0 : Int))).fst].length) *
 (8 : Nat) ≤
 (140737488355328 : Nat) ∧
 x_1.snd.length + [(x_1.fst.getD y.toNat ((0 : Int), (0 : Int))).fst].length ≤
 (140737488355328 : Nat)) ∧
 ((0 : Int) ≤ y ∧ y ≤ (↑x_1.fst.length : Int)) ∧
 (((0 : Nat) + (List.drop (0 : Nat) (List.take y.toNat x_1.fst)).length) *
 (16 : Nat) ≤
 (140737488355328 : Nat) ∧
 (0 : Nat) + (List.drop (0 : Nat) (List.take y.toNat x_1.fst)).length ≤
 (140737488355328 : Nat)) ∧
 ((-9223372036854775808 : Int) ≤ y + (1 : Int) ∧
 y + (1 : Int) ≤ (9223372036854775807 : Int)) ∧
 ((0 : Int) ≤ y + (1 : Int) ∧ y + (1 : Int) ≤ (↑x_1.fst.length : Int)) ∧
 (((0 : Nat) + (List.drop (0 : Nat) (List.take y.toNat x_1.fst)).length +
 (List.drop (y + (1 : Int)).toNat
 (List.take x_1.fst.length x_1.fst)).length) *
 (16 : Nat) ≤
 (140737488355328 : Nat) ∧
 (0 : Nat) + (List.drop (0 : Nat) (List.take y.toNat x_1.fst)).length +
 (List.drop (y + (1 : Int)).toNat
 (List.take x_1.fst.length x_1.fst)).length ≤
 (140737488355328 : Nat)) ∧
 ∃ (y_1 : List En × List Int),
 I y_1 ∧
 μ y_1 < μ x_1 ∧
 (0 : Nat) +
 (List.drop (0 : Nat) (List.take y.toNat x_1.fst)).length +
 (List.drop (y + (1 : Int)).toNat
 (List.take x_1.fst.length x_1.fst)).length =
 y_1.fst.length ∧
 x_1.snd.length +
 [(x_1.fst.getD y.toNat ((0 : Int), (0 : Int))).fst].length =
 y_1.snd.length ∧
 [] ++ List.drop (0 : Nat) (List.take y.toNat x_1.fst) ++
 List.drop (y + (1 : Int)).toNat
 (List.take x_1.fst.length x_1.fst) =
 y_1.fst ∧
 x_1.snd ++
 [(x_1.fst.getD y.toNat ((0 : Int), (0 : Int))).fst] =
 y_1.snd ∧
 True)
 (∃ (y : Unit),
 True ∧
 x_1.snd.length = (List.map (fun (x : En) => x.fst) (rankK x.fst x.snd)).length ∧
 x_1.snd = List.map (fun (x : En) => x.fst) (rankK x.fst x.snd) ∧ True)
theorem o_rank12 : owes Try.prog (tab VT1) LqVL 0 95 Try.f95 (RankP fun x => True) = T_rank12 := by kernel_rfl
def T_vicis : Prop :=
 ∀ (x : Int × List En),
 True →
 ∃ (x_1 : Unit),
 True ∧
 ∀ (y : Unit),
 True →
 ifB (decide ((200 : Int) < (↑x.snd.length : Int))) (∃ (y : Unit), True ∧ true = true ∧ True)
 (∃ (x_2 : List En),
 x.snd.length = x_2.length ∧
 x.snd = x_2 ∧
 x_2.length ≤ most ∧
 ∀ (y : Unit),
 True →
 ∃ (x_3 : Int × List En),
 x.fst = x_3.fst ∧
 x_2.length = x_3.snd.length ∧
 x_2 = x_3.snd ∧
 (True ∧ x_3.snd.length ≤ most) ∧
 ∀ (y : Unit),
 True →
 ∃ (x_4 : Int × List En),
 x.fst = x_4.fst ∧
 x.snd.length = x_4.snd.length ∧
 x.snd = x_4.snd ∧
 (True ∧ x_4.snd.length ≤ most) ∧
 ∀ (y : Unit),
 True →
 ifB
 (decide
 ((chooseK x_3.fst x_3.snd).fst =
 (chooseK x_4.fst x_4.snd).fst))
 (ifB
 (decide
 ((chooseK x_3.fst x_3.snd).snd =
 (chooseK x_4.fst x_4.snd).snd))
 (∃ (x_5 : List En),
 x.snd.length = x_5.length ∧
 x.snd = x_5 ∧
 x_5.length ≤ most ∧
 ∀ (y : Unit),
 True →
 ∃ (x_6 : Int × List En),
 x.fst = x_6.fst ∧
 x_5.length = x_6.snd.length ∧
 x_5 = x_6.snd ∧
 (True ∧ x_6.snd.length ≤ most) ∧
 ∀ (y : Unit),
 True →
 ∃ (x_7 : Int × List En),
 x.fst = x_7.fst ∧
 x.snd.length = x_7.snd.length ∧
 x.snd = x_7.snd ∧
 (True ∧
 x_7.snd.length ≤ most) ∧
 ∀ (y : Unit),
 True →
 ∃ (x :
 List Int ×
 List Int),
 (List.map
 (fun
 (x :
 En) =>
 x.fst)
 (rankK
 x_6.fst
 x_6.snd)).length =
 x.fst.length ∧
 (List.map
 (fun
 (x :
 En) =>
 x.fst)
 (rankK
 x_7.fst
 x_7.snd)).length =
 x.snd.length ∧
 List.map
 (fun
 (x :
 En) =>
 x.fst)
 (rankK
 x_6.fst
 x_6.snd) =
 x.fst ∧
 List.map
 (fun
 (x :
 En) =>
 x.fst)
 (rankK
 x_7.fst
 x_7.snd) =
 x.snd ∧
 x.fst.length ≤
 most ∧
 ∀
 (y :
 Unit),
 True →
 ∃ (y :
 Unit),
 True ∧
 decide
 (x.fst =
 x.snd) =
 true ∧
 True)
 (∃ (y : Unit), True ∧ false = true ∧ True))
 (∃ (y : Unit), True ∧ false = true ∧ True))
theorem o_vicis : owes Try.prog (tab VT2) LqVL 0 28 Try.f28 VicIsL = T_vicis := by kernel_rfl
def T_viclight : Prop :=
 ∀ (x : List En),
 True →
 ∃ (x_1 : Unit),
 True ∧
 ∀ (y : Unit),
 True →
 ifB (decide ((200 : Int) < (↑x.length : Int))) (∃ (y : Unit), True ∧ true = true ∧ True)
 (∃ (x_2 : List En),
 x.length = x_2.length ∧
 x = x_2 ∧
 x_2.length ≤ most ∧
 ∀ (y : Unit),
 True →
 ∃ (I : Int × List En → Prop),
 ∃ (μ : Int × List En → Nat),
 (∃ (x : Int × List En), I x ∧ (0 : Int) = x.fst ∧ x_2 = x.snd ∧ True) ∧
 ∀ (x_3 : Int × List En),
 I x_3 →
 ifB (decide (x_3.fst < (↑x_2.length : Int)))
 (((0 : Int) ≤ x_3.fst ∧ x_3.fst < (↑x_2.length : Int)) ∧
 ((-9223372036854775808 : Int) ≤ x_3.fst + (1 : Int) ∧
 x_3.fst + (1 : Int) ≤ (9223372036854775807 : Int)) ∧
 ∃ (y : Int × List En),
 I y ∧
 μ y < μ x_3 ∧
 x_3.fst + (1 : Int) = y.fst ∧
 x_3.snd.set x_3.fst.toNat
 (x_3.fst,
 (x_3.snd.getD x_3.fst.toNat ((0 : Int), (0 : Int))).snd) =
 y.snd ∧
 True)
 (∃ (x_4 : Int × List En),
 (1 : Int) = x_4.fst ∧
 x_2.length = x_4.snd.length ∧
 x_3.snd = x_4.snd ∧
 (True ∧ x_4.snd.length ≤ most) ∧
 ∀ (y : Unit),
 True →
 ifB (!(chooseK x_4.fst x_4.snd).snd)
 (∃ (y : Unit),
 True ∧ decide ((↑x.length : Int) = (0 : Int)) = true ∧ True)
 (ifB (decide ((chooseK x_4.fst x_4.snd).fst < (0 : Int)))
 (∃ (y : Unit), True ∧ false = true ∧ True)
 (ifB
 (decide ((↑x_2.length : Int) ≤ (chooseK x_4.fst x_4.snd).fst))
 (∃ (y : Unit), True ∧ false = true ∧ True)
 (∃ (I : Int → Prop),
 ∃ (μ : Int → Nat),
 (∃ (x : Int), I x ∧ (0 : Int) = x ∧ True) ∧
 ∀ (x : Int),
 I x →
 ifB (decide (x < (↑x_2.length : Int)))
 (((0 : Int) ≤ x ∧ x < (↑x_2.length : Int)) ∧
 ((0 : Int) ≤ (chooseK x_4.fst x_4.snd).fst ∧
 (chooseK x_4.fst x_4.snd).fst <
 (↑x_2.length : Int)) ∧
 ifB
 (decide
 ((x_3.snd.getD x.toNat
 ((0 : Int), (0 : Int))).snd <
 (x_3.snd.getD
 (chooseK x_4.fst x_4.snd).fst.toNat
 ((0 : Int), (0 : Int))).snd))
 (∃ (y : Unit), True ∧ false = true ∧ True)
 (((0 : Int) ≤ x ∧ x < (↑x_2.length : Int)) ∧
 ((0 : Int) ≤
 (chooseK x_4.fst x_4.snd).fst ∧
 (chooseK x_4.fst x_4.snd).fst <
 (↑x_2.length : Int)) ∧
 ifB
 (decide
 ((x_3.snd.getD x.toNat
 ((0 : Int), (0 : Int))).snd =
 (x_3.snd.getD
 (chooseK x_4.fst
 x_4.snd).fst.toNat
 ((0 : Int), (0 : Int))).snd))
 (ifB
 (decide
 ((chooseK x_4.fst x_4.snd).fst <
 x))
 (∃ (y : Unit),
 True ∧ false = true ∧ True)
 (((-9223372036854775808 : Int) ≤
 x + (1 : Int) ∧
 x + (1 : Int) ≤
 (9223372036854775807 : Int)) ∧
 ∃ (y : Int),
 I y ∧
 μ y < μ x ∧
 x + (1 : Int) = y ∧ True))
 (((-9223372036854775808 : Int) ≤
 x + (1 : Int) ∧
 x + (1 : Int) ≤
 (9223372036854775807 : Int)) ∧
 ∃ (y : Int),
 I y ∧
 μ y < μ x ∧
 x + (1 : Int) = y ∧ True)))
 (∃ (y : Unit), True ∧ true = true ∧ True))))))
theorem o_viclight : owes Try.prog (tab VT2) LqVL 0 27 Try.f27 VicLightL = T_viclight := by kernel_rfl
def T_vicrank : Prop :=
 ∀ (x : Int × List En),
 True →
 ∃ (x_1 : Unit),
 True ∧
 ∀ (y : Unit),
 True →
 ifB (decide ((200 : Int) < (↑x.snd.length : Int))) (∃ (y : Unit), True ∧ true = true ∧ True)
 (∃ (x_2 : List En),
 x.snd.length = x_2.length ∧
 x.snd = x_2 ∧
 x_2.length ≤ most ∧
 ∀ (y : Unit),
 True →
 ∃ (I : Int × List En → Prop),
 ∃ (μ : Int × List En → Nat),
 (∃ (x : Int × List En), I x ∧ (0 : Int) = x.fst ∧ x_2 = x.snd ∧ True) ∧
 ∀ (x_3 : Int × List En),
 I x_3 →
 ifB (decide (x_3.fst < (↑x_2.length : Int)))
 (((0 : Int) ≤ x_3.fst ∧ x_3.fst < (↑x_2.length : Int)) ∧
 ((-9223372036854775808 : Int) ≤ x_3.fst + (1 : Int) ∧
 x_3.fst + (1 : Int) ≤ (9223372036854775807 : Int)) ∧
 ∃ (y : Int × List En),
 I y ∧
 μ y < μ x_3 ∧
 x_3.fst + (1 : Int) = y.fst ∧
 x_3.snd.set x_3.fst.toNat
 (x_3.fst,
 (x_3.snd.getD x_3.fst.toNat ((0 : Int), (0 : Int))).snd) =
 y.snd ∧
 True)
 (∃ (x_4 : Int × List En),
 x.fst = x_4.fst ∧
 x_2.length = x_4.snd.length ∧
 x_3.snd = x_4.snd ∧
 (True ∧ x_4.snd.length ≤ most) ∧
 ∀ (y : Unit),
 True →
 ifB
 (!decide
 ((↑(List.map (fun (x : En) => x.fst)
 (rankK x_4.fst x_4.snd)).length :
 Int) =
 (↑x_2.length : Int)))
 (∃ (y : Unit), True ∧ false = true ∧ True)
 (((0 : Int) ≤ (↑x_2.length : Int) ∧
 (↑x_2.length : Int) ≤ (↑x_2.length : Int) ∧
 (↑x_2.length : Int) ≤ (140737488355328 : Int) ∧
 (↑x_2.length : Int) * (1 : Int) ≤
 (140737488355328 : Int)) ∧
 ∃ (I : Int × List Bool → Prop),
 ∃ (μ : Int × List Bool → Nat),
 (∃ (x : Int × List Bool),
 I x ∧
 (0 : Int) = x.fst ∧
 List.replicate (↑x_2.length : Int).toNat false =
 x.snd ∧
 True) ∧
 ∀ (x_5 : Int × List Bool),
 I x_5 →
 ifB
 (decide
 (x_5.fst <
 (↑(List.map (fun (x : En) => x.fst)
 (rankK x_4.fst x_4.snd)).length :
 Int)))
 (((0 : Int) ≤ x_5.fst ∧
 x_5.fst <
 (↑(List.map (fun (x : En) => x.fst)
 (rankK x_4.fst x_4.snd)).length :
 Int)) ∧
 ifB
 (decide
 ((List.map (fun (x : En) => x.fst)
 (rankK x_4.fst x_4.snd)).getD
 x_5.fst.toNat (0 : Int) <
 (0 : Int)))
 (∃ (y : Unit), True ∧ false = true ∧ True)
 (ifB
 (decide
 ((↑x_2.length : Int) ≤
 (List.map (fun (x : En) => x.fst)
 (rankK x_4.fst x_4.snd)).getD
 x_5.fst.toNat (0 : Int)))
 (∃ (y : Unit), True ∧ false = true ∧ True)
 (((0 : Int) ≤
 (List.map (fun (x : En) => x.fst)
 (rankK x_4.fst x_4.snd)).getD
 x_5.fst.toNat (0 : Int) ∧
 (List.map (fun (x : En) => x.fst)
 (rankK x_4.fst x_4.snd)).getD
 x_5.fst.toNat (0 : Int) <
 (↑(↑x_2.length : Int).toNat : Int)) ∧
 ifB
 (x_5.snd.getD
 ((List.map (fun (x : En) => x.fst)
 (rankK x_4.fst x_4.snd)).getD
 x_5.fst.toNat (0 : Int)).toNat
 false)
 (∃ (y : Unit),
 True ∧ false = true ∧ True)
 (ifB (!decide (x.fst = (1 : Int)))
 (((-9223372036854775808 : Int) ≤
 (↑x_2.length : Int) - (1 : Int) ∧
 (↑x_2.length : Int) - (1 : Int) ≤
 (9223372036854775807 : Int)) ∧
 ((-9223372036854775808 : Int) ≤
 (↑x_2.length : Int) -
 (1 : Int) -
 x_5.fst ∧
 (↑x_2.length : Int) - (1 : Int) -
 x_5.fst ≤
 (9223372036854775807 : Int)) ∧
 ifB
 (!decide
 ((List.map
 (fun (x : En) =>
 x.fst)
 (rankK x_4.fst
 x_4.snd)).getD
 x_5.fst.toNat (0 : Int) =
 (↑x_2.length : Int) -
 (1 : Int) -
 x_5.fst))
 (∃ (y : Unit),
 True ∧ false = true ∧ True)
 (ifB (decide (x.fst = (1 : Int)))
 (ifB
 (decide ((0 : Int) < x_5.fst))
 (((-9223372036854775808 :
 Int) ≤
 x_5.fst - (1 : Int) ∧
 x_5.fst - (1 : Int) ≤
 (9223372036854775807 :
 Int)) ∧
 ((0 : Int) ≤
 x_5.fst - (1 : Int) ∧
 x_5.fst - (1 : Int) <
 (↑(List.map
 (fun
 (x :
 En) =>
 x.fst)
 (rankK x_4.fst
 x_4.snd)).length :
 Int)) ∧
 ((0 : Int) ≤
 (List.map
 (fun
 (x :
 En) =>
 x.fst)
 (rankK x_4.fst
 x_4.snd)).getD
 (x_5.fst -
 (1 :
 Int)).toNat
 (0 : Int) ∧
 (List.map
 (fun
 (x :
 En) =>
 x.fst)
 (rankK x_4.fst
 x_4.snd)).getD
 (x_5.fst -
 (1 :
 Int)).toNat
 (0 : Int) <
 (↑x_2.length :
 Int)) ∧
 ((0 : Int) ≤
 (List.map
 (fun
 (x :
 En) =>
 x.fst)
 (rankK
 x_4.fst
 x_4.snd)).getD
 x_5.fst.toNat
 (0 : Int) ∧
 (List.map
 (fun
 (x :
 En) =>
 x.fst)
 (rankK
 x_4.fst
 x_4.snd)).getD
 x_5.fst.toNat
 (0 : Int) <
 (↑x_2.length :
 Int)) ∧
 ifB
 (decide
 ((x_3.snd.getD
 ((List.map
 (fun
 (x :
 En) =>
 x.fst)
 (rankK
 x_4.fst
 x_4.snd)).getD
 x_5.fst.toNat
 (0 :
 Int)).toNat
 ((0 : Int),
 (0 :
 Int))).snd <
 (x_3.snd.getD
 ((List.map
 (fun
 (x :
 En) =>
 x.fst)
 (rankK
 x_4.fst
 x_4.snd)).getD
 (x_5.fst -
 (1 :
 Int)).toNat
 (0 :
 Int)).toNat
 ((0 : Int),
 (0 :
 Int))).snd))
 (∃ (y : Unit),
 True ∧
 false = true ∧
 True)
 (((0 : Int) ≤
 (List.map
 (fun
 (x :
 En) =>
 x.fst)
 (rankK
 x_4.fst
 x_4.snd)).getD
 x_5.fst.toNat
 (0 : Int) ∧
 (List.map
 (fun
 (x :
 En) =>
 x.fst)
 (rankK
 x_4.fst
 x_4.snd)).getD
 x_5.fst.toNat
 (0 : Int) <
 (↑(↑x_2.length :
 Int).toNat :
 Int)) ∧
 ((-9223372036854775808 :
 Int) ≤
 x_5.fst +
 (1 :
 Int) ∧
 x_5.fst +
 (1 :
 Int) ≤
 (9223372036854775807 :
 Int)) ∧
 ∃ (y :
 Int ×
 List Bool),
 I y ∧
 μ y <
 μ x_5 ∧
 x_5.fst +
 (1 :
 Int) =
 y.fst ∧
 x_5.snd.set
 ((List.map
 (fun
 (x :
 En) =>
 x.fst)
 (rankK
 x_4.fst
 x_4.snd)).getD
 x_5.fst.toNat
 (0 :
 Int)).toNat
 true =
 y.snd ∧
 True))
 (((0 : Int) ≤
 (List.map
 (fun (x : En) =>
 x.fst)
 (rankK x_4.fst
 x_4.snd)).getD
 x_5.fst.toNat
 (0 : Int) ∧
 (List.map
 (fun (x : En) =>
 x.fst)
 (rankK x_4.fst
 x_4.snd)).getD
 x_5.fst.toNat
 (0 : Int) <
 (↑(↑x_2.length :
 Int).toNat :
 Int)) ∧
 ((-9223372036854775808 :
 Int) ≤
 x_5.fst + (1 : Int) ∧
 x_5.fst + (1 : Int) ≤
 (9223372036854775807 :
 Int)) ∧
 ∃ (y : Int × List Bool),
 I y ∧
 μ y < μ x_5 ∧
 x_5.fst +
 (1 : Int) =
 y.fst ∧
 x_5.snd.set
 ((List.map
 (fun
 (x :
 En) =>
 x.fst)
 (rankK
 x_4.fst
 x_4.snd)).getD
 x_5.fst.toNat
 (0 :
 Int)).toNat
 true =
 y.snd ∧
 True))
 (((0 : Int) ≤
 (List.map
 (fun (x : En) =>
 x.fst)
 (rankK x_4.fst
 x_4.snd)).getD
 x_5.fst.toNat
 (0 : Int) ∧
 (List.map
 (fun (x : En) =>
 x.fst)
 (rankK x_4.fst
 x_4.snd)).getD
 x_5.fst.toNat
 (0 : Int) <
 (↑(↑x_2.length :
 Int).toNat :
 Int)) ∧
 ((-9223372036854775808 :
 Int) ≤
 x_5.fst + (1 : Int) ∧
 x_5.fst + (1 : Int) ≤
 (9223372036854775807 :
 Int)) ∧
 ∃ (y : Int × List Bool),
 I y ∧
 μ y < μ x_5 ∧
 x_5.fst + (1 : Int) =
 y.fst ∧
 x_5.snd.set
 ((List.map
 (fun
 (x :
 En) =>
 x.fst)
 (rankK
 x_4.fst
 x_4.snd)).getD
 x_5.fst.toNat
 (0 :
 Int)).toNat
 true =
 y.snd ∧
 True)))
 (ifB (decide (x.fst = (1 : Int)))
 (ifB (decide ((0 : Int) < x_5.fst))
 (((-9223372036854775808 : Int) ≤
 x_5.fst - (1 : Int) ∧
 x_5.fst - (1 : Int) ≤
 (9223372036854775807 : Int)) ∧
 ((0 : Int) ≤ x_5.fst - (1 : Int) ∧
 x_5.fst - (1 : Int) <
 (↑(List.map
 (fun (x : En) =>
 x.fst)
 (rankK x_4.fst
 x_4.snd)).length :
 Int)) ∧
 ((0 : Int) ≤
 (List.map
 (fun (x : En) =>
 x.fst)
 (rankK x_4.fst
 x_4.snd)).getD
 (x_5.fst -
 (1 : Int)).toNat
 (0 : Int) ∧
 (List.map
 (fun (x : En) =>
 x.fst)
 (rankK x_4.fst
 x_4.snd)).getD
 (x_5.fst -
 (1 : Int)).toNat
 (0 : Int) <
 (↑x_2.length : Int)) ∧
 ((0 : Int) ≤
 (List.map
 (fun (x : En) =>
 x.fst)
 (rankK x_4.fst
 x_4.snd)).getD
 x_5.fst.toNat
 (0 : Int) ∧
 (List.map
 (fun (x : En) =>
 x.fst)
 (rankK x_4.fst
 x_4.snd)).getD
 x_5.fst.toNat
 (0 : Int) <
 (↑x_2.length : Int)) ∧
 ifB
 (decide
 ((x_3.snd.getD
 ((List.map
 (fun
 (x :
 En) =>
 x.fst)
 (rankK
 x_4.fst
 x_4.snd)).getD
 x_5.fst.toNat
 (0 :
 Int)).toNat
 ((0 : Int),
 (0 :
 Int))).snd <
 (x_3.snd.getD
 ((List.map
 (fun
 (x :
 En) =>
 x.fst)
 (rankK
 x_4.fst
 x_4.snd)).getD
 (x_5.fst -
 (1 :
 Int)).toNat
 (0 :
 Int)).toNat
 ((0 : Int),
 (0 :
 Int))).snd))
 (∃ (y : Unit),
 True ∧
 false = true ∧ True)
 (((0 : Int) ≤
 (List.map
 (fun
 (x :
 En) =>
 x.fst)
 (rankK x_4.fst
 x_4.snd)).getD
 x_5.fst.toNat
 (0 : Int) ∧
 (List.map
 (fun
 (x :
 En) =>
 x.fst)
 (rankK x_4.fst
 x_4.snd)).getD
 x_5.fst.toNat
 (0 : Int) <
 (↑(↑x_2.length :
 Int).toNat :
 Int)) ∧
 ((-9223372036854775808 :
 Int) ≤
 x_5.fst +
 (1 : Int) ∧
 x_5.fst +
 (1 : Int) ≤
 (9223372036854775807 :
 Int)) ∧
 ∃ (y :
 Int × List Bool),
 I y ∧
 μ y < μ x_5 ∧
 x_5.fst +
 (1 :
 Int) =
 y.fst ∧
 x_5.snd.set
 ((List.map
 (fun
 (x :
 En) =>
 x.fst)
 (rankK
 x_4.fst
 x_4.snd)).getD
 x_5.fst.toNat
 (0 :
 Int)).toNat
 true =
 y.snd ∧
 True))
 (((0 : Int) ≤
 (List.map
 (fun (x : En) => x.fst)
 (rankK x_4.fst
 x_4.snd)).getD
 x_5.fst.toNat (0 : Int) ∧
 (List.map
 (fun (x : En) => x.fst)
 (rankK x_4.fst
 x_4.snd)).getD
 x_5.fst.toNat (0 : Int) <
 (↑(↑x_2.length : Int).toNat :
 Int)) ∧
 ((-9223372036854775808 : Int) ≤
 x_5.fst + (1 : Int) ∧
 x_5.fst + (1 : Int) ≤
 (9223372036854775807 :
 Int)) ∧
 ∃ (y : Int × List Bool),
 I y ∧
 μ y < μ x_5 ∧
 x_5.fst + (1 : Int) =
 y.fst ∧
 x_5.snd.set
 ((List.map
 (fun
 (x :
 En) =>
 x.fst)
 (rankK
 x_4.fst
 x_4.snd)).getD
 x_5.fst.toNat
 (0 :
 Int)).toNat
 true =
 y.snd ∧
 True))
 (((0 : Int) ≤
 (List.map
 (fun (x : En) => x.fst)
 (rankK x_4.fst
 x_4.snd)).getD
 x_5.fst.toNat (0 : Int) ∧
 (List.map (fun (x : En) => x.fst)
 (rankK x_4.fst
 x_4.snd)).getD
 x_5.fst.toNat (0 : Int) <
 (↑(↑x_2.length : Int).toNat :
 Int)) ∧
 ((-9223372036854775808 : Int) ≤
 x_5.fst + (1 : Int) ∧
 x_5.fst + (1 : Int) ≤
 (9223372036854775807 : Int)) ∧
 ∃ (y : Int × List Bool),
 I y ∧
 μ y < μ x_5 ∧
 x_5.fst + (1 : Int) =
 y.fst ∧
 x_5.snd.set
 ((List.map
 (fun
 (x :
 En) =>
 x.fst)
 (rankK
 x_4.fst
 x_4.snd)).getD
 x_5.fst.toNat
 (0 : Int)).toNat
 true =
 y.snd ∧
 True))))))
 (∃ (x_6 : Int × List En),
 x.fst = x_6.fst ∧
 x_2.length = x_6.snd.length ∧
 x_3.snd = x_6.snd ∧
 (True ∧ x_6.snd.length ≤ most) ∧
 ∀ (y : Unit),
 True →
 ifB
 (decide
 ((chooseK x_6.fst x_6.snd).snd =
 decide
 ((0 : Int) <
 (↑x_2.length : Int))))
 (ifB
 (!(chooseK x_6.fst x_6.snd).snd)
 (∃ (y : Unit),
 True ∧ true = true ∧ True)
 (((0 : Int) ≤ (0 : Int) ∧
 (0 : Int) <
 (↑(List.map
 (fun (x : En) =>
 x.fst)
 (rankK x_4.fst
 x_4.snd)).length :
 Int)) ∧
 ∃ (y : Unit),
 True ∧
 decide
 ((chooseK x_6.fst
 x_6.snd).fst =
 (List.map
 (fun
 (x :
 En) =>
 x.fst)
 (rankK x_4.fst
 x_4.snd)).getD
 (0 : Nat)
 (0 : Int)) =
 true ∧
 True))
 (∃ (y : Unit),
 True ∧ false = true ∧ True)))))
theorem o_vicrank : owes Try.prog (tab VT2) LqVL 0 29 Try.f29 VicIsL = T_vicrank := by kernel_rfl
def T_vicscores : Prop :=
 ∀ (x : List En),
 True →
 ∃ (x_1 : Unit),
 True ∧
 ∀ (y : Unit),
 True →
 ifB (decide ((200 : Int) < (↑x.length : Int))) (∃ (y : Unit), True ∧ true = true ∧ True)
 (∃ (x_2 : List En),
 x.length = x_2.length ∧
 x = x_2 ∧
 x_2.length ≤ most ∧
 ∀ (y : Unit),
 True →
 ∃ (x_3 : List En),
 x.length = x_3.length ∧
 x = x_3 ∧
 x_3.length ≤ most ∧
 ∀ (y : Unit),
 True →
 ∃ (I : Int × List En × List En → Prop),
 ∃ (μ : Int × List En × List En → Nat),
 (∃ (x : Int × List En × List En),
 I x ∧ (0 : Int) = x.fst ∧ x_2 = x.snd.fst ∧ x_3 = x.snd.snd ∧ True) ∧
 ∀ (x_4 : Int × List En × List En),
 I x_4 →
 ifB (decide (x_4.fst < (↑x_2.length : Int)))
 (((0 : Int) ≤ x_4.fst ∧ x_4.fst < (↑x.length : Int)) ∧
 ((0 : Int) ≤ x_4.fst ∧ x_4.fst < (↑x_2.length : Int)) ∧
 ((0 : Int) ≤ x_4.fst ∧ x_4.fst < (↑x.length : Int)) ∧
 ((-9223372036854775808 : Int) ≤
 (2 : Int) *
 bits BinOp.and IntKind.i64
 (x.getD x_4.fst.toNat ((0 : Int), (0 : Int))).snd
 (65535 : Int) ∧
 (2 : Int) *
 bits BinOp.and IntKind.i64
 (x.getD x_4.fst.toNat ((0 : Int), (0 : Int))).snd
 (65535 : Int) ≤
 (9223372036854775807 : Int)) ∧
 ((-9223372036854775808 : Int) ≤
 (2 : Int) *
 bits BinOp.and IntKind.i64
 (x.getD x_4.fst.toNat ((0 : Int), (0 : Int))).snd
 (65535 : Int) +
 (1 : Int) ∧
 (2 : Int) *
 bits BinOp.and IntKind.i64
 (x.getD x_4.fst.toNat ((0 : Int), (0 : Int))).snd
 (65535 : Int) +
 (1 : Int) ≤
 (9223372036854775807 : Int)) ∧
 ((0 : Int) ≤ x_4.fst ∧ x_4.fst < (↑x_3.length : Int)) ∧
 ((-9223372036854775808 : Int) ≤ x_4.fst + (1 : Int) ∧
 x_4.fst + (1 : Int) ≤ (9223372036854775807 : Int)) ∧
 ∃ (y : Int × List En × List En),
 I y ∧
 μ y < μ x_4 ∧
 x_4.fst + (1 : Int) = y.fst ∧
 x_4.snd.fst.set x_4.fst.toNat
 ((x_4.snd.fst.getD x_4.fst.toNat
 ((0 : Int), (0 : Int))).fst,
 bits BinOp.and IntKind.i64
 (x.getD x_4.fst.toNat
 ((0 : Int), (0 : Int))).snd
 (65535 : Int)) =
 y.snd.fst ∧
 x_4.snd.snd.set x_4.fst.toNat
 ((x_4.snd.snd.getD x_4.fst.toNat
 ((0 : Int), (0 : Int))).fst,
 (2 : Int) *
 bits BinOp.and IntKind.i64
 (x.getD x_4.fst.toNat
 ((0 : Int), (0 : Int))).snd
 (65535 : Int) +
 (1 : Int)) =
 y.snd.snd ∧
 True)
 (∃ (x_5 : Int × List En),
 (1 : Int) = x_5.fst ∧
 x_2.length = x_5.snd.length ∧
 x_4.snd.fst = x_5.snd ∧
 (True ∧ x_5.snd.length ≤ most) ∧
 ∀ (y : Unit),
 True →
 ∃ (x_6 : Int × List En),
 (1 : Int) = x_6.fst ∧
 x_3.length = x_6.snd.length ∧
 x_4.snd.snd = x_6.snd ∧
 (True ∧ x_6.snd.length ≤ most) ∧
 ∀ (y : Unit),
 True →
 ∃ (x_7 : List Int × List Int),
 (List.map (fun (x : En) => x.fst)
 (rankK x_5.fst
 x_5.snd)).length =
 x_7.fst.length ∧
 (List.map (fun (x : En) => x.fst)
 (rankK x_6.fst
 x_6.snd)).length =
 x_7.snd.length ∧
 List.map (fun (x : En) => x.fst)
 (rankK x_5.fst x_5.snd) =
 x_7.fst ∧
 List.map (fun (x : En) => x.fst)
 (rankK x_6.fst x_6.snd) =
 x_7.snd ∧
 x_7.fst.length ≤ most ∧
 ∀ (y : Unit),
 True →
 ifB
 (decide
 (x_7.fst = x_7.snd))
 (∃ (x_8 :
 Int × List En),
 (0 : Int) = x_8.fst ∧
 x_2.length =
 x_8.snd.length ∧
 x_4.snd.fst =
 x_8.snd ∧
 (True ∧
 x_8.snd.length ≤
 most) ∧
 ∀ (y : Unit),
 True →
 ∃ (x_9 :
 List
 En),
 x.length =
 x_9.length ∧
 x =
 x_9 ∧
 x_9.length ≤
 most ∧
 ∀
 (y :
 Unit),
 True →
 ∃
 (x
 :
 Int ×
 List
 En),
 (0 :
 Int) =
 x.fst ∧
 x_9.length =
 x.snd.length ∧
 x_9 =
 x.snd ∧
 (True ∧
 x.snd.length ≤
 most) ∧
 ∀
 (y :
 Unit),
 True →
 ∃
 (x_10
 :
 List
 Int ×
 List
 Int),
 (List.map
 (fun
 (x :
 En) =>
 x.fst)
 (rankK
 x_8.fst
 x_8.snd)).length =
 x_10.fst.length ∧
 (List.map
 (fun
 (x :
 En) =>
 x.fst)
 (rankK
 x.fst
 x.snd)).length =
 x_10.snd.length ∧
 List.map
 (fun
 (x :
 En) =>
 x.fst)
 (rankK
 x_8.fst
 x_8.snd) =
 x_10.fst ∧
 List.map
 (fun
 (x :
 En) =>
 x.fst)
 (rankK
 x.fst
 x.snd) =
 x_10.snd ∧
 x_10.fst.length ≤
 most ∧
 ∀
 (y :
 Unit),
 True →
 ∃
 (y
 :
 Unit),
 True ∧
 decide
 (x_10.fst =
 x_10.snd) =
 true ∧
 True)
 (∃ (y : Unit),
 True ∧
 false = true ∧
 True)))
theorem o_vicscores : owes Try.prog (tab VT2) LqVL 0 30 Try.f30 VicLightL = T_vicscores := by kernel_rfl
end Sp
