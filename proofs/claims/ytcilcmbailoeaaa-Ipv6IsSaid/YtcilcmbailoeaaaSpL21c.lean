/- Printed by sx.py, a program of this work: what the walks of some functions owe. -/
import Derived.Test.YtcilcmbailoeaaaSpL21
import Derived.ProofKit
set_option linter.all false
set_option maxRecDepth 100000
namespace Sp
open Go Go.Proofs Sx
def T_hops6 : Prop :=
 ∀ (x : List Int),
 (∀ (x_1 : Int), List.Mem x_1 x → (0 : Int) ≤ x_1 ∧ x_1 ≤ (255 : Int)) →
 ∃ (x_1 : Unit),
 True ∧
 ∀ (y : Unit),
 True →
 ifB (decide ((3000 : Int) < (↑x.length : Int))) (∃ (y : Unit), True ∧ true = true ∧ True)
 (∃ (x_2 : List Int),
 x.length = x_2.length ∧
 x = x_2 ∧
 ((∀ (x : Int), List.Mem x x_2 → (0 : Int) ≤ x ∧ x ≤ (255 : Int)) ∧ x_2.length ≤ most) ∧
 ∀ (y : Unit),
 True →
 ∃ (x_3 : List Int),
 x.length = x_3.length ∧
 x = x_3 ∧
 ((∀ (x : Int), List.Mem x x_3 → (0 : Int) ≤ x ∧ x ≤ (255 : Int)) ∧ x_3.length ≤ most) ∧
 ∀ (y : Unit),
 True →
 ifB (decide ((parse6 x_2).snd = (0 : Int)))
 (ifB
 (!decide
 ((hop6 x_3).snd =
 decide ((2 : Int) ≤ (parse6 x_2).fst.snd.snd.snd.snd.fst)))
 (∃ (y : Unit), True ∧ false = true ∧ True)
 (ifB (!(hop6 x_3).snd)
 (∃ (y : Unit),
 True ∧ decide ((↑(hop6 x_3).fst.length : Int) = (0 : Int)) = true ∧ True)
 (((-9223372036854775808 : Int) ≤ (40 : Int) + (parse6 x_2).fst.snd.snd.fst ∧
 (40 : Int) + (parse6 x_2).fst.snd.snd.fst ≤
 (9223372036854775807 : Int)) ∧
 ifB
 (!decide
 ((↑(hop6 x_3).fst.length : Int) =
 (40 : Int) + (parse6 x_2).fst.snd.snd.fst))
 (∃ (y : Unit), True ∧ false = true ∧ True)
 (ifB (decide ((↑x.length : Int) < (↑(hop6 x_3).fst.length : Int)))
 (∃ (y : Unit), True ∧ false = true ∧ True)
 (∃ (I : Int → Prop),
 ∃ (μ : Int → Nat),
 (∃ (x : Int), I x ∧ (0 : Int) = x ∧ True) ∧
 ∀ (x_4 : Int),
 I x_4 →
 ifB (decide (x_4 < (↑(hop6 x_3).fst.length : Int)))
 (ifB (!decide (x_4 = (7 : Int)))
 (((0 : Int) ≤ x_4 ∧
 x_4 < (↑(hop6 x_3).fst.length : Int)) ∧
 ((0 : Int) ≤ x_4 ∧ x_4 < (↑x.length : Int)) ∧
 ifB
 (!decide
 ((hop6 x_3).fst.getD x_4.toNat (0 : Int) =
 x.getD x_4.toNat (0 : Int)))
 (∃ (y : Unit), True ∧ false = true ∧ True)
 (ifB (decide (x_4 = (7 : Int)))
 (((0 : Int) ≤ x_4 ∧
 x_4 < (↑(hop6 x_3).fst.length : Int)) ∧
 ((-9223372036854775808 : Int) ≤
 (parse6 x_2).fst.snd.snd.snd.snd.fst -
 (1 : Int) ∧
 (parse6 x_2).fst.snd.snd.snd.snd.fst -
 (1 : Int) ≤
 (9223372036854775807 : Int)) ∧
 ifB
 (!decide
 ((hop6 x_3).fst.getD x_4.toNat
 (0 : Int) =
 (parse6
 x_2).fst.snd.snd.snd.snd.fst -
 (1 : Int)))
 (∃ (y : Unit),
 True ∧ false = true ∧ True)
 (((-9223372036854775808 : Int) ≤
 x_4 + (1 : Int) ∧
 x_4 + (1 : Int) ≤
 (9223372036854775807 : Int)) ∧
 ∃ (y : Int),
 I y ∧
 μ y < μ x_4 ∧
 x_4 + (1 : Int) = y ∧ True))
 (((-9223372036854775808 : Int) ≤
 x_4 + (1 : Int) ∧
 x_4 + (1 : Int) ≤
 (9223372036854775807 : Int)) ∧
 ∃ (y : Int),
 I y ∧
 μ y < μ x_4 ∧
 x_4 + (1 : Int) = y ∧ True)))
 (ifB (decide (x_4 = (7 : Int)))
 (((0 : Int) ≤ x_4 ∧
 x_4 < (↑(hop6 x_3).fst.length : Int)) ∧
 ((-9223372036854775808 : Int) ≤
 (parse6 x_2).fst.snd.snd.snd.snd.fst -
 (1 : Int) ∧
 (parse6 x_2).fst.snd.snd.snd.snd.fst -
 (1 : Int) ≤
 (9223372036854775807 : Int)) ∧
 ifB
 (!decide
 ((hop6 x_3).fst.getD x_4.toNat (0 : Int) =
 (parse6 x_2).fst.snd.snd.snd.snd.fst -
 (1 : Int)))
 (∃ (y : Unit), True ∧ false = true ∧ True)
 (((-9223372036854775808 : Int) ≤
 x_4 + (1 : Int) ∧
 x_4 + (1 : Int) ≤
 (9223372036854775807 : Int)) ∧
 ∃ (y : Int),
 I y ∧
 μ y < μ x_4 ∧ x_4 + (1 : Int) = y ∧ True))
 (((-9223372036854775808 : Int) ≤ x_4 + (1 : Int) ∧
 x_4 + (1 : Int) ≤ (9223372036854775807 : Int)) ∧
 ∃ (y : Int),
 I y ∧ μ y < μ x_4 ∧ x_4 + (1 : Int) = y ∧ True)))
 (∃ (I : List Int × Bool × Int → Prop),
 ∃ (μ : List Int × Bool × Int → Nat),
 (∃ (x : List Int × Bool × Int),
 I x ∧
 (hop6 x_3).fst.length = x.fst.length ∧
 (hop6 x_3).snd = x.snd.fst ∧
 (0 : Int) = x.snd.snd ∧
 (hop6 x_3).fst = x.fst ∧ True) ∧
 ∀ (x : List Int × Bool × Int),
 I x →
 ifB x.snd.fst
 (ifB (decide (x.snd.snd < (300 : Int)))
 (∃ (x_5 : List Int),
 x.fst.length = x_5.length ∧
 x.fst = x_5 ∧
 ((∀ (x : Int),
 List.Mem x x_5 →
 (0 : Int) ≤ x ∧
 x ≤ (255 : Int)) ∧
 x_5.length ≤ most) ∧
 ∀ (y : Unit),
 True →
 ((-9223372036854775808 : Int) ≤
 x.snd.snd + (1 : Int) ∧
 x.snd.snd + (1 : Int) ≤
 (9223372036854775807 :
 Int)) ∧
 ∃ (y : List Int × Bool × Int),
 I y ∧
 μ y < μ x ∧
 (hop6 x_5).fst.length =
 y.fst.length ∧
 (hop6 x_5).snd =
 y.snd.fst ∧
 x.snd.snd +
 (1 : Int) =
 y.snd.snd ∧
 (hop6 x_5).fst =
 y.fst ∧
 True)
 (((-9223372036854775808 : Int) ≤
 (parse6 x_2).fst.snd.snd.snd.snd.fst -
 (1 : Int) ∧
 (parse6 x_2).fst.snd.snd.snd.snd.fst -
 (1 : Int) ≤
 (9223372036854775807 : Int)) ∧
 ∃ (y : Unit),
 True ∧
 decide
 (x.snd.snd =
 (parse6
 x_2).fst.snd.snd.snd.snd.fst -
 (1 : Int)) =
 true ∧
 True))
 (((-9223372036854775808 : Int) ≤
 (parse6 x_2).fst.snd.snd.snd.snd.fst -
 (1 : Int) ∧
 (parse6 x_2).fst.snd.snd.snd.snd.fst -
 (1 : Int) ≤
 (9223372036854775807 : Int)) ∧
 ∃ (y : Unit),
 True ∧
 decide
 (x.snd.snd =
 (parse6
 x_2).fst.snd.snd.snd.snd.fst -
 (1 : Int)) =
 true ∧
 True)))))))
 (ifB (!decide ((hop6 x_3).snd = false))
 (∃ (y : Unit), True ∧ false = true ∧ True)
 (ifB (!(hop6 x_3).snd)
 (∃ (y : Unit),
 True ∧ decide ((↑(hop6 x_3).fst.length : Int) = (0 : Int)) = true ∧ True)
 (((-9223372036854775808 : Int) ≤ (40 : Int) + (parse6 x_2).fst.snd.snd.fst ∧
 (40 : Int) + (parse6 x_2).fst.snd.snd.fst ≤
 (9223372036854775807 : Int)) ∧
 ifB
 (!decide
 ((↑(hop6 x_3).fst.length : Int) =
 (40 : Int) + (parse6 x_2).fst.snd.snd.fst))
 (∃ (y : Unit), True ∧ false = true ∧ True)
 (ifB (decide ((↑x.length : Int) < (↑(hop6 x_3).fst.length : Int)))
 (∃ (y : Unit), True ∧ false = true ∧ True)
 (∃ (I : Int → Prop),
 ∃ (μ : Int → Nat),
 (∃ (x : Int), I x ∧ (0 : Int) = x ∧ True) ∧
 ∀ (x_4 : Int),
 I x_4 →
 ifB (decide (x_4 < (↑(hop6 x_3).fst.length : Int)))
 (ifB (!decide (x_4 = (7 : Int)))
 (((0 : Int) ≤ x_4 ∧
 x_4 < (↑(hop6 x_3).fst.length : Int)) ∧
 ((0 : Int) ≤ x_4 ∧ x_4 < (↑x.length : Int)) ∧
 ifB
 (!decide
 ((hop6 x_3).fst.getD x_4.toNat (0 : Int) =
 x.getD x_4.toNat (0 : Int)))
 (∃ (y : Unit), True ∧ false = true ∧ True)
 (ifB (decide (x_4 = (7 : Int)))
 (((0 : Int) ≤ x_4 ∧
 x_4 < (↑(hop6 x_3).fst.length : Int)) ∧
 ((-9223372036854775808 : Int) ≤
 (parse6 x_2).fst.snd.snd.snd.snd.fst -
 (1 : Int) ∧
 (parse6 x_2).fst.snd.snd.snd.snd.fst -
 (1 : Int) ≤
 (9223372036854775807 : Int)) ∧
 ifB
 (!decide
 ((hop6 x_3).fst.getD x_4.toNat
 (0 : Int) =
 (parse6
 x_2).fst.snd.snd.snd.snd.fst -
 (1 : Int)))
 (∃ (y : Unit),
 True ∧ false = true ∧ True)
 (((-9223372036854775808 : Int) ≤
 x_4 + (1 : Int) ∧
 x_4 + (1 : Int) ≤
 (9223372036854775807 : Int)) ∧
 ∃ (y : Int),
 I y ∧
 μ y < μ x_4 ∧
 x_4 + (1 : Int) = y ∧ True))
 (((-9223372036854775808 : Int) ≤
 x_4 + (1 : Int) ∧
 x_4 + (1 : Int) ≤
 (9223372036854775807 : Int)) ∧
 ∃ (y : Int),
 I y ∧
 μ y < μ x_4 ∧
 x_4 + (1 : Int) = y ∧ True)))
 (ifB (decide (x_4 = (7 : Int)))
 (((0 : Int) ≤ x_4 ∧
 x_4 < (↑(hop6 x_3).fst.length : Int)) ∧
 ((-9223372036854775808 : Int) ≤
 (parse6 x_2).fst.snd.snd.snd.snd.fst -
 (1 : Int) ∧
 (parse6 x_2).fst.snd.snd.snd.snd.fst -
 (1 : Int) ≤
 (9223372036854775807 : Int)) ∧
 ifB
 (!decide
 ((hop6 x_3).fst.getD x_4.toNat (0 : Int) =
 (parse6 x_2).fst.snd.snd.snd.snd.fst -
 (1 : Int)))
 (∃ (y : Unit), True ∧ false = true ∧ True)
 (((-9223372036854775808 : Int) ≤
 x_4 + (1 : Int) ∧
 x_4 + (1 : Int) ≤
 (9223372036854775807 : Int)) ∧
 ∃ (y : Int),
 I y ∧
 μ y < μ x_4 ∧ x_4 + (1 : Int) = y ∧ True))
 (((-9223372036854775808 : Int) ≤ x_4 + (1 : Int) ∧
 x_4 + (1 : Int) ≤ (9223372036854775807 : Int)) ∧
 ∃ (y : Int),
 I y ∧ μ y < μ x_4 ∧ x_4 + (1 : Int) = y ∧ True)))
 (∃ (I : List Int × Bool × Int → Prop),
 ∃ (μ : List Int × Bool × Int → Nat),
 (∃ (x : List Int × Bool × Int),
 I x ∧
 (hop6 x_3).fst.length = x.fst.length ∧
 (hop6 x_3).snd = x.snd.fst ∧
 (0 : Int) = x.snd.snd ∧
 (hop6 x_3).fst = x.fst ∧ True) ∧
 ∀ (x : List Int × Bool × Int),
 I x →
 ifB x.snd.fst
 (ifB (decide (x.snd.snd < (300 : Int)))
 (∃ (x_5 : List Int),
 x.fst.length = x_5.length ∧
 x.fst = x_5 ∧
 ((∀ (x : Int),
 List.Mem x x_5 →
 (0 : Int) ≤ x ∧
 x ≤ (255 : Int)) ∧
 x_5.length ≤ most) ∧
 ∀ (y : Unit),
 True →
 ((-9223372036854775808 : Int) ≤
 x.snd.snd + (1 : Int) ∧
 x.snd.snd + (1 : Int) ≤
 (9223372036854775807 :
 Int)) ∧
 ∃ (y : List Int × Bool × Int),
 I y ∧
 μ y < μ x ∧
 (hop6 x_5).fst.length =
 y.fst.length ∧
 (hop6 x_5).snd =
 y.snd.fst ∧
 x.snd.snd +
 (1 : Int) =
 y.snd.snd ∧
 (hop6 x_5).fst =
 y.fst ∧
 True)
 (((-9223372036854775808 : Int) ≤
 (parse6 x_2).fst.snd.snd.snd.snd.fst -
 (1 : Int) ∧
 (parse6 x_2).fst.snd.snd.snd.snd.fst -
 (1 : Int) ≤
 (9223372036854775807 : Int)) ∧
 ∃ (y : Unit),
 True ∧
 decide
 (x.snd.snd =
 (parse6
 x_2).fst.snd.snd.snd.snd.fst -
 (1 : Int)) =
 true ∧
 True))
 (((-9223372036854775808 : Int) ≤
 (parse6 x_2).fst.snd.snd.snd.snd.fst -
 (1 : Int) ∧
 (parse6 x_2).fst.snd.snd.snd.snd.fst -
 (1 : Int) ≤
 (9223372036854775807 : Int)) ∧
 ∃ (y : Unit),
 True ∧
 decide
 (x.snd.snd =
 (parse6
 x_2).fst.snd.snd.snd.snd.fst -
 (1 : Int)) =
 true ∧
 True))))))))
theorem o_hops6 : owes Try.prog (tab L21) LqL21 1 24 Try.f24 Hops6L = T_hops6 := by kernel_rfl
end Sp
