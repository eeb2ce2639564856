/- Printed by sx.py, a program of this work: what the walks of some functions owe. -/
import Derived.Test.YtcilcmbailoeaaaSpV
import Derived.ProofKit
set_option linter.all false
set_option maxRecDepth 100000
namespace Sp
open Go Go.Proofs Sx
def T_cmpi : Prop :=
 ∀ (x : Int × Int),
 True →
 ifB (!decide (x.fst = x.fst))
 (ifB (!decide (x.snd = x.snd))
 (∃ (y : Unit),
 True ∧
 ((0 : Int) = if x.fst < x.snd then (-1 : Int) else if x.snd < x.fst then (1 : Int) else (0 : Int)) ∧ True)
 (∃ (y : Unit),
 True ∧
 ((-1 : Int) = if x.fst < x.snd then (-1 : Int) else if x.snd < x.fst then (1 : Int) else (0 : Int)) ∧ True))
 (ifB (!decide (x.snd = x.snd))
 (∃ (y : Unit),
 True ∧
 ((1 : Int) = if x.fst < x.snd then (-1 : Int) else if x.snd < x.fst then (1 : Int) else (0 : Int)) ∧ True)
 (ifB (decide (x.fst < x.snd))
 (∃ (y : Unit),
 True ∧
 ((-1 : Int) = if x.fst < x.snd then (-1 : Int) else if x.snd < x.fst then (1 : Int) else (0 : Int)) ∧
 True)
 (ifB (decide (x.snd < x.fst))
 (∃ (y : Unit),
 True ∧
 ((1 : Int) = if x.fst < x.snd then (-1 : Int) else if x.snd < x.fst then (1 : Int) else (0 : Int)) ∧
 True)
 (∃ (y : Unit),
 True ∧
 ((0 : Int) = if x.fst < x.snd then (-1 : Int) else if x.snd < x.fst then (1 : Int) else (0 : Int)) ∧
 True))))
theorem o_cmpi : owes Try.prog (tab W0) LqV 1 141 Try.f141 CmpIS = T_cmpi := by kernel_rfl
def T_vswap : Prop :=
 ∀ (x : List En × Nat × Nat × Nat),
 x.snd.fst + x.snd.snd.snd ≤ x.snd.snd.fst ∧ x.snd.snd.fst + x.snd.snd.snd ≤ x.fst.length ∧ x.fst.length ≤ most →
 ∃ (I : Int × List En → Prop),
 ∃ (μ : Int × List En → Nat),
 (∃ (x_1 : Int × List En), I x_1 ∧ (0 : Int) = x_1.fst ∧ x.fst = x_1.snd ∧ True) ∧
 ∀ (x_1 : Int × List En),
 I x_1 →
 ifB (decide (x_1.fst < (↑x.snd.snd.snd : Int)))
 (((-9223372036854775808 : Int) ≤ (↑x.snd.fst : Int) + x_1.fst ∧
 (↑x.snd.fst : Int) + x_1.fst ≤ (9223372036854775807 : Int)) ∧
 ((-9223372036854775808 : Int) ≤ (↑x.snd.snd.fst : Int) + x_1.fst ∧
 (↑x.snd.snd.fst : Int) + x_1.fst ≤ (9223372036854775807 : Int)) ∧
 ((-9223372036854775808 : Int) ≤ (↑x.snd.snd.fst : Int) + x_1.fst ∧
 (↑x.snd.snd.fst : Int) + x_1.fst ≤ (9223372036854775807 : Int)) ∧
 ((0 : Int) ≤ (↑x.snd.snd.fst : Int) + x_1.fst ∧
 (↑x.snd.snd.fst : Int) + x_1.fst < (↑x.fst.length : Int)) ∧
 ((-9223372036854775808 : Int) ≤ (↑x.snd.fst : Int) + x_1.fst ∧
 (↑x.snd.fst : Int) + x_1.fst ≤ (9223372036854775807 : Int)) ∧
 ((0 : Int) ≤ (↑x.snd.fst : Int) + x_1.fst ∧
 (↑x.snd.fst : Int) + x_1.fst < (↑x.fst.length : Int)) ∧
 ((0 : Int) ≤ (↑x.snd.fst : Int) + x_1.fst ∧
 (↑x.snd.fst : Int) + x_1.fst < (↑x.fst.length : Int)) ∧
 ((0 : Int) ≤ (↑x.snd.snd.fst : Int) + x_1.fst ∧
 (↑x.snd.snd.fst : Int) + x_1.fst < (↑x.fst.length : Int)) ∧
 ((-9223372036854775808 : Int) ≤ x_1.fst + (1 : Int) ∧
 x_1.fst + (1 : Int) ≤ (9223372036854775807 : Int)) ∧
 ∃ (y : Int × List En),
 I y ∧
 μ y < μ x_1 ∧
 x_1.fst + (1 : Int) = y.fst ∧
 (x_1.snd.set ((↑x.snd.fst : Int) + x_1.fst).toNat
 ((x_1.snd.getD ((↑x.snd.snd.fst : Int) + x_1.fst).toNat
 ((0 : Int), (0 : Int))).fst,
 (x_1.snd.getD ((↑x.snd.snd.fst : Int) + x_1.fst).toNat
 ((0 : Int), (0 : Int))).snd)).set
 ((↑x.snd.snd.fst : Int) + x_1.fst).toNat
 ((x_1.snd.getD ((↑x.snd.fst : Int) + x_1.fst).toNat
 ((0 : Int), (0 : Int))).fst,
 (x_1.snd.getD ((↑x.snd.fst : Int) + x_1.fst).toNat
 ((0 : Int), (0 : Int))).snd) =
 y.snd ∧
 True)
 (∃ (y : List En), y = swapL x.fst x.snd.fst x.snd.snd.fst x.snd.snd.snd ∧ x_1.snd = y ∧ True)
theorem o_vswap : owes Try.prog (tab W0) LqV 0 151 Try.f151 SwapS = T_vswap := by kernel_rfl
def T_vrev : Prop :=
 ∀ (x : List En),
 x.length ≤ most →
 ((-9223372036854775808 : Int) ≤ (↑x.length : Int) - (1 : Int) ∧
 (↑x.length : Int) - (1 : Int) ≤ (9223372036854775807 : Int)) ∧
 ∃ (I : Int × Int × List En → Prop),
 ∃ (μ : Int × Int × List En → Nat),
 (∃ (x_1 : Int × Int × List En),
 I x_1 ∧ (0 : Int) = x_1.fst ∧ (↑x.length : Int) - (1 : Int) = x_1.snd.fst ∧ x = x_1.snd.snd ∧ True) ∧
 ∀ (x_1 : Int × Int × List En),
 I x_1 →
 ifB (decide (x_1.fst < x_1.snd.fst))
 (((0 : Int) ≤ x_1.snd.fst ∧ x_1.snd.fst < (↑x.length : Int)) ∧
 ((0 : Int) ≤ x_1.fst ∧ x_1.fst < (↑x.length : Int)) ∧
 ((0 : Int) ≤ x_1.fst ∧ x_1.fst < (↑x.length : Int)) ∧
 ((0 : Int) ≤ x_1.snd.fst ∧ x_1.snd.fst < (↑x.length : Int)) ∧
 ((-9223372036854775808 : Int) ≤ x_1.fst + (1 : Int) ∧
 x_1.fst + (1 : Int) ≤ (9223372036854775807 : Int)) ∧
 ((-9223372036854775808 : Int) ≤ x_1.snd.fst - (1 : Int) ∧
 x_1.snd.fst - (1 : Int) ≤ (9223372036854775807 : Int)) ∧
 ∃ (y : Int × Int × List En),
 I y ∧
 μ y < μ x_1 ∧
 x_1.fst + (1 : Int) = y.fst ∧
 x_1.snd.fst - (1 : Int) = y.snd.fst ∧
 (x_1.snd.snd.set x_1.fst.toNat
 ((x_1.snd.snd.getD x_1.snd.fst.toNat ((0 : Int), (0 : Int))).fst,
 (x_1.snd.snd.getD x_1.snd.fst.toNat
 ((0 : Int), (0 : Int))).snd)).set
 x_1.snd.fst.toNat
 ((x_1.snd.snd.getD x_1.fst.toNat ((0 : Int), (0 : Int))).fst,
 (x_1.snd.snd.getD x_1.fst.toNat ((0 : Int), (0 : Int))).snd) =
 y.snd.snd ∧
 True)
 (∃ (y : List En), y = x.reverse ∧ x_1.snd.snd = y ∧ True)
theorem o_vrev : owes Try.prog (tab W0) LqV 0 143 Try.f143 RevS = T_vrev := by kernel_rfl
def T_vclone : Prop :=
 ∀ (x : List (Int × Int)),
 x.length ≤ most →
 (x.length = (0 : Nat) → ∃ (y : Unit), True ∧ (0 : Nat) = x.length ∧ [] = x ∧ True) ∧
 (((0 : Nat) + x.length) * (16 : Nat) ≤ (140737488355328 : Nat) ∧ (0 : Nat) + x.length ≤ (140737488355328 : Nat)) ∧
 ∃ (y : Unit), True ∧ (0 : Nat) + x.length = x.length ∧ [] ++ x = x ∧ True
theorem o_vclone : owes Try.prog (tab W0) LqV 0 142 Try.f142 (CloneS enK) = T_vclone := by kernel_rfl
def T_cmp0 : Prop :=
 ∀ (x : En × En), True → ∃ (y : Unit), True ∧ (0 : Int) = cmpK key0 x.fst x.snd ∧ True
theorem o_cmp0 : owes Try.prog (tab V0) LqV 0 139 Try.f139 (CmpS key0) = T_cmp0 := by kernel_rfl
def T_cmp1 : Prop :=
 ∀ (x : En × En),
 True →
 ∃ (x_1 : Int × Int),
 x.fst.snd = x_1.fst ∧
 x.snd.snd = x_1.snd ∧
 True ∧
 ∀ (y : Unit),
 True →
 ∃ (y : Unit),
 True ∧
 (if x_1.fst < x_1.snd then (-1 : Int) else if x_1.snd < x_1.fst then (1 : Int) else (0 : Int)) =
 cmpK key1 x.fst x.snd ∧
 True
theorem o_cmp1 : owes Try.prog (tab V0) LqV 0 140 Try.f140 (CmpS key1) = T_cmp1 := by kernel_rfl
def T_vrot : Prop :=
 ∀ (x : List En × Nat × Nat × Nat),
 x.snd.fst < x.snd.snd.fst ∧ x.snd.snd.fst < x.snd.snd.snd ∧ x.snd.snd.snd ≤ x.fst.length ∧ x.fst.length ≤ most →
 ((-9223372036854775808 : Int) ≤ (↑x.snd.snd.fst : Int) - (↑x.snd.fst : Int) ∧
 (↑x.snd.snd.fst : Int) - (↑x.snd.fst : Int) ≤ (9223372036854775807 : Int)) ∧
 ((-9223372036854775808 : Int) ≤ (↑x.snd.snd.snd : Int) - (↑x.snd.snd.fst : Int) ∧
 (↑x.snd.snd.snd : Int) - (↑x.snd.snd.fst : Int) ≤ (9223372036854775807 : Int)) ∧
 ∃ (I : Int × Int × List En → Prop),
 ∃ (μ : Int × Int × List En → Nat),
 (∃ (x_1 : Int × Int × List En),
 I x_1 ∧
 (↑x.snd.snd.fst : Int) - (↑x.snd.fst : Int) = x_1.fst ∧
 (↑x.snd.snd.snd : Int) - (↑x.snd.snd.fst : Int) = x_1.snd.fst ∧ x.fst = x_1.snd.snd ∧ True) ∧
 ∀ (x_1 : Int × Int × List En),
 I x_1 →
 ifB (!decide (x_1.fst = x_1.snd.fst))
 (ifB (decide (x_1.snd.fst < x_1.fst))
 (((-9223372036854775808 : Int) ≤ (↑x.snd.snd.fst : Int) - x_1.fst ∧
 (↑x.snd.snd.fst : Int) - x_1.fst ≤ (9223372036854775807 : Int)) ∧
 ∃ (x_2 : List En × Nat × Nat × Nat),
 x.fst.length = x_2.fst.length ∧
 (↑x.snd.snd.fst : Int) - x_1.fst = (↑x_2.snd.fst : Int) ∧
 (↑x.snd.snd.fst : Int) = (↑x_2.snd.snd.fst : Int) ∧
 x_1.snd.fst = (↑x_2.snd.snd.snd : Int) ∧
 x_1.snd.snd = x_2.fst ∧
 (x_2.snd.fst + x_2.snd.snd.snd ≤ x_2.snd.snd.fst ∧
 x_2.snd.snd.fst + x_2.snd.snd.snd ≤ x_2.fst.length ∧ x_2.fst.length ≤ most) ∧
 ∀ (y : List En),
 y = swapL x_2.fst x_2.snd.fst x_2.snd.snd.fst x_2.snd.snd.snd →
 ((-9223372036854775808 : Int) ≤ x_1.fst - x_1.snd.fst ∧
 x_1.fst - x_1.snd.fst ≤ (9223372036854775807 : Int)) ∧
 ∃ (y_1 : Int × Int × List En),
 I y_1 ∧
 μ y_1 < μ x_1 ∧
 x_1.fst - x_1.snd.fst = y_1.fst ∧
 x_1.snd.fst = y_1.snd.fst ∧ y = y_1.snd.snd ∧ True)
 (((-9223372036854775808 : Int) ≤ (↑x.snd.snd.fst : Int) - x_1.fst ∧
 (↑x.snd.snd.fst : Int) - x_1.fst ≤ (9223372036854775807 : Int)) ∧
 ((-9223372036854775808 : Int) ≤ (↑x.snd.snd.fst : Int) + x_1.snd.fst ∧
 (↑x.snd.snd.fst : Int) + x_1.snd.fst ≤ (9223372036854775807 : Int)) ∧
 ((-9223372036854775808 : Int) ≤ (↑x.snd.snd.fst : Int) + x_1.snd.fst - x_1.fst ∧
 (↑x.snd.snd.fst : Int) + x_1.snd.fst - x_1.fst ≤ (9223372036854775807 : Int)) ∧
 ∃ (x_2 : List En × Nat × Nat × Nat),
 x.fst.length = x_2.fst.length ∧
 (↑x.snd.snd.fst : Int) - x_1.fst = (↑x_2.snd.fst : Int) ∧
 (↑x.snd.snd.fst : Int) + x_1.snd.fst - x_1.fst = (↑x_2.snd.snd.fst : Int) ∧
 x_1.fst = (↑x_2.snd.snd.snd : Int) ∧
 x_1.snd.snd = x_2.fst ∧
 (x_2.snd.fst + x_2.snd.snd.snd ≤ x_2.snd.snd.fst ∧
 x_2.snd.snd.fst + x_2.snd.snd.snd ≤ x_2.fst.length ∧
 x_2.fst.length ≤ most) ∧
 ∀ (y : List En),
 y = swapL x_2.fst x_2.snd.fst x_2.snd.snd.fst x_2.snd.snd.snd →
 ((-9223372036854775808 : Int) ≤ x_1.snd.fst - x_1.fst ∧
 x_1.snd.fst - x_1.fst ≤ (9223372036854775807 : Int)) ∧
 ∃ (y_1 : Int × Int × List En),
 I y_1 ∧
 μ y_1 < μ x_1 ∧
 x_1.fst = y_1.fst ∧
 x_1.snd.fst - x_1.fst = y_1.snd.fst ∧ y = y_1.snd.snd ∧ True))
 (((-9223372036854775808 : Int) ≤ (↑x.snd.snd.fst : Int) - x_1.fst ∧
 (↑x.snd.snd.fst : Int) - x_1.fst ≤ (9223372036854775807 : Int)) ∧
 ∃ (x_2 : List En × Nat × Nat × Nat),
 x.fst.length = x_2.fst.length ∧
 (↑x.snd.snd.fst : Int) - x_1.fst = (↑x_2.snd.fst : Int) ∧
 (↑x.snd.snd.fst : Int) = (↑x_2.snd.snd.fst : Int) ∧
 x_1.fst = (↑x_2.snd.snd.snd : Int) ∧
 x_1.snd.snd = x_2.fst ∧
 (x_2.snd.fst + x_2.snd.snd.snd ≤ x_2.snd.snd.fst ∧
 x_2.snd.snd.fst + x_2.snd.snd.snd ≤ x_2.fst.length ∧ x_2.fst.length ≤ most) ∧
 ∀ (y : List En),
 y = swapL x_2.fst x_2.snd.fst x_2.snd.snd.fst x_2.snd.snd.snd →
 ∃ (y_1 : List En),
 y_1 = rotL x.fst x.snd.fst x.snd.snd.fst x.snd.snd.snd ∧ y = y_1 ∧ True)
theorem o_vrot : owes Try.prog (tab V0) LqV 0 150 Try.f150 RotS = T_vrot := by kernel_rfl
def T_vins (key : En → Int) : Prop :=
 ∀ (x : List En × Nat × Nat),
 x.snd.fst ≤ x.snd.snd ∧ x.snd.snd ≤ x.fst.length ∧ x.fst.length ≤ most →
 ((-9223372036854775808 : Int) ≤ (↑x.snd.fst : Int) + (1 : Int) ∧
 (↑x.snd.fst : Int) + (1 : Int) ≤ (9223372036854775807 : Int)) ∧
 ∃ (I : Int × List En → Prop),
 ∃ (μ : Int × List En → Nat),
 (∃ (x_1 : Int × List En), I x_1 ∧ (↑x.snd.fst : Int) + (1 : Int) = x_1.fst ∧ x.fst = x_1.snd ∧ True) ∧
 ∀ (x_1 : Int × List En),
 I x_1 →
 ifB (decide (x_1.fst < (↑x.snd.snd : Int)))
 (∃ (I_1 : Int × List En → Prop),
 ∃ (μ_1 : Int × List En → Nat),
 (∃ (x : Int × List En), I_1 x ∧ x_1.fst = x.fst ∧ x_1.snd = x.snd ∧ True) ∧
 ∀ (x_2 : Int × List En),
 I_1 x_2 →
 ifB (decide ((↑x.snd.fst : Int) < x_2.fst))
 (((0 : Int) ≤ x_2.fst ∧ x_2.fst < (↑x.fst.length : Int)) ∧
 ((-9223372036854775808 : Int) ≤ x_2.fst - (1 : Int) ∧
 x_2.fst - (1 : Int) ≤ (9223372036854775807 : Int)) ∧
 ((0 : Int) ≤ x_2.fst - (1 : Int) ∧ x_2.fst - (1 : Int) < (↑x.fst.length : Int)) ∧
 ∃ (x_3 : En × En),
 (x_2.snd.getD x_2.fst.toNat ((0 : Int), (0 : Int))).fst = x_3.fst.fst ∧
 (x_2.snd.getD x_2.fst.toNat ((0 : Int), (0 : Int))).snd = x_3.fst.snd ∧
 (x_2.snd.getD (x_2.fst - (1 : Int)).toNat ((0 : Int), (0 : Int))).fst =
 x_3.snd.fst ∧
 (x_2.snd.getD (x_2.fst - (1 : Int)).toNat ((0 : Int), (0 : Int))).snd =
 x_3.snd.snd ∧
 True ∧
 ∀ (y : Unit),
 True →
 ifB (decide (cmpK key x_3.fst x_3.snd < (0 : Int)))
 (((-9223372036854775808 : Int) ≤ x_2.fst - (1 : Int) ∧
 x_2.fst - (1 : Int) ≤ (9223372036854775807 : Int)) ∧
 ((-9223372036854775808 : Int) ≤ x_2.fst - (1 : Int) ∧
 x_2.fst - (1 : Int) ≤ (9223372036854775807 : Int)) ∧
 ((0 : Int) ≤ x_2.fst - (1 : Int) ∧
 x_2.fst - (1 : Int) < (↑x.fst.length : Int)) ∧
 ((0 : Int) ≤ x_2.fst ∧ x_2.fst < (↑x.fst.length : Int)) ∧
 ((0 : Int) ≤ x_2.fst ∧ x_2.fst < (↑x.fst.length : Int)) ∧
 ((0 : Int) ≤ x_2.fst - (1 : Int) ∧
 x_2.fst - (1 : Int) < (↑x.fst.length : Int)) ∧
 ((-9223372036854775808 : Int) ≤ x_2.fst - (1 : Int) ∧
 x_2.fst - (1 : Int) ≤
 (9223372036854775807 : Int)) ∧
 ∃ (y : Int × List En),
 I_1 y ∧
 μ_1 y < μ_1 x_2 ∧
 x_2.fst - (1 : Int) = y.fst ∧
 (x_2.snd.set x_2.fst.toNat
 ((x_2.snd.getD
 (x_2.fst - (1 : Int)).toNat
 ((0 : Int), (0 : Int))).fst,
 (x_2.snd.getD
 (x_2.fst - (1 : Int)).toNat
 ((0 : Int),
 (0 : Int))).snd)).set
 (x_2.fst - (1 : Int)).toNat
 ((x_2.snd.getD x_2.fst.toNat
 ((0 : Int), (0 : Int))).fst,
 (x_2.snd.getD x_2.fst.toNat
 ((0 : Int), (0 : Int))).snd) =
 y.snd ∧
 True)
 (((-9223372036854775808 : Int) ≤ x_1.fst + (1 : Int) ∧
 x_1.fst + (1 : Int) ≤ (9223372036854775807 : Int)) ∧
 ∃ (y : Int × List En),
 I y ∧
 μ y < μ x_1 ∧
 x_1.fst + (1 : Int) = y.fst ∧ x_2.snd = y.snd ∧ True))
 (((-9223372036854775808 : Int) ≤ x_1.fst + (1 : Int) ∧
 x_1.fst + (1 : Int) ≤ (9223372036854775807 : Int)) ∧
 ∃ (y : Int × List En),
 I y ∧ μ y < μ x_1 ∧ x_1.fst + (1 : Int) = y.fst ∧ x_2.snd = y.snd ∧ True))
 (∃ (y : List En), SSR key x.snd.fst x.snd.snd x.fst y ∧ x_1.snd = y ∧ True)
theorem o_vins : owes Try.prog (tab V1) LqV 0 148 Try.f148 (InsS 140 key1) = T_vins key1 := by kernel_rfl
theorem o_vins0 : owes Try.prog (tab V1) LqV 0 148 Try.f148 (InsS 139 key0) = T_vins key0 := by kernel_rfl
end Sp
