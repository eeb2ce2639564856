/- Printed by sx.py, a program of this work: what the walks of some functions owe. -/
import Derived.Test.YthnhbnakpmkppaaSpL11
import Derived.ProofKit
set_option linter.all false
set_option maxRecDepth 100000
namespace Sp
open Go Go.Proofs Sx
def T_wake11 : Prop :=
 ∀ (x : Unit),
 True →
 ∃ (x : Int × Int),
 (2 : Int) = x.fst ∧
 (16 : Int) = x.snd ∧
 True ∧
 ∀ (y : Unit),
 True →
 ∃ (x_1 : Sk × Pf),
 (0 : Int) = x_1.snd.fst ∧
 (0 : Int) = x_1.snd.snd.fst ∧
 false = x_1.snd.snd.snd.fst ∧
 (0 : Int) = x_1.snd.snd.snd.snd ∧
 (newK x.fst x.snd).fst.length = x_1.fst.fst.length ∧
 (newK x.fst x.snd).snd = x_1.fst.snd ∧
 (newK x.fst x.snd).fst = x_1.fst.fst ∧
 (okK x_1.fst ∧
 ((0 : Int) ≤ (pA x_1.snd).fst ∧ (pA x_1.snd).fst < (18446744073709551616 : Int)) ∧
 (0 : Int) ≤ (pA x_1.snd).snd.fst ∧
 (pA x_1.snd).snd.fst < (18446744073709551616 : Int)) ∧
 ∀ (y : Unit),
 True →
 ∃ (x_2 : Sk × Pf),
 (0 : Int) = x_2.snd.fst ∧
 (0 : Int) = x_2.snd.snd.fst ∧
 false = x_2.snd.snd.snd.fst ∧
 (0 : Int) = x_2.snd.snd.snd.snd ∧
 (newK x.fst x.snd).fst.length = x_2.fst.fst.length ∧
 (newK x.fst x.snd).snd = x_2.fst.snd ∧
 (addK x_1.fst x_1.snd).fst = x_2.fst.fst ∧
 (okK x_2.fst ∧
 ((0 : Int) ≤ (pA x_2.snd).fst ∧
 (pA x_2.snd).fst < (18446744073709551616 : Int)) ∧
 (0 : Int) ≤ (pA x_2.snd).snd.fst ∧
 (pA x_2.snd).snd.fst < (18446744073709551616 : Int)) ∧
 ∀ (y : Unit),
 True →
 ∃ (x_3 : Sk × Pf),
 (0 : Int) = x_3.snd.fst ∧
 (0 : Int) = x_3.snd.snd.fst ∧
 false = x_3.snd.snd.snd.fst ∧
 (0 : Int) = x_3.snd.snd.snd.snd ∧
 (newK x.fst x.snd).fst.length =
 x_3.fst.fst.length ∧
 (newK x.fst x.snd).snd = x_3.fst.snd ∧
 (addK x_2.fst x_2.snd).fst = x_3.fst.fst ∧
 (okK x_3.fst ∧
 ((0 : Int) ≤ (pA x_3.snd).fst ∧
 (pA x_3.snd).fst <
 (18446744073709551616 : Int)) ∧
 (0 : Int) ≤ (pA x_3.snd).snd.fst ∧
 (pA x_3.snd).snd.fst <
 (18446744073709551616 : Int)) ∧
 ∀ (y : Unit),
 True →
 ∃ (x_4 : Sk × Pf),
 (0 : Int) = x_4.snd.fst ∧
 (0 : Int) = x_4.snd.snd.fst ∧
 false = x_4.snd.snd.snd.fst ∧
 (0 : Int) =
 x_4.snd.snd.snd.snd ∧
 (newK x.fst
 x.snd).fst.length =
 x_4.fst.fst.length ∧
 (newK x.fst x.snd).snd =
 x_4.fst.snd ∧
 (addK x_3.fst
 x_3.snd).fst =
 x_4.fst.fst ∧
 (okK x_4.fst ∧
 ((0 : Int) ≤
 (pA
 x_4.snd).fst ∧
 (pA
 x_4.snd).fst <
 (18446744073709551616 :
 Int)) ∧
 (0 : Int) ≤
 (pA
 x_4.snd).snd.fst ∧
 (pA
 x_4.snd).snd.fst <
 (18446744073709551616 :
 Int)) ∧
 ∀ (y : Unit),
 True →
 ∃ (x_5 :
 List Int ×
 Int),
 (newK x.fst
 x.snd).fst.length =
 x_5.fst.length ∧
 (newK x.fst
 x.snd).snd =
 x_5.snd ∧
 (addK
 x_3.fst
 x_3.snd).fst =
 x_5.fst ∧
 okK
 x_5 ∧
 ∀
 (y :
 Unit),
 True →
 ifB
 (saneP
 x_3.snd)
 (ifB
 (decide
 (countK
 x_4.fst
 x_4.snd =
 (3 :
 Int)))
 (∃
 (x_6
 :
 Sk ×
 Pf),
 (0 :
 Int) =
 x_6.snd.fst ∧
 (0 :
 Int) =
 x_6.snd.snd.fst ∧
 false =
 x_6.snd.snd.snd.fst ∧
 (0 :
 Int) =
 x_6.snd.snd.snd.snd ∧
 (newK
 x.fst
 x.snd).fst.length =
 x_6.fst.fst.length ∧
 (newK
 x.fst
 x.snd).snd =
 x_6.fst.snd ∧
 (decK
 x_5).fst =
 x_6.fst.fst ∧
 (okK
 x_6.fst ∧
 ((0 :
 Int) ≤
 (pA
 x_6.snd).fst ∧
 (pA
 x_6.snd).fst <
 (18446744073709551616 :
 Int)) ∧
 (0 :
 Int) ≤
 (pA
 x_6.snd).snd.fst ∧
 (pA
 x_6.snd).snd.fst <
 (18446744073709551616 :
 Int)) ∧
 ∀
 (y :
 Unit),
 True →
 ifB
 (decide
 (countK
 x_6.fst
 x_6.snd =
 (1 :
 Int)))
 (∃
 (x_7
 :
 List
 Int ×
 Int),
 (newK
 x.fst
 x.snd).fst.length =
 x_7.fst.length ∧
 (newK
 x.fst
 x.snd).snd =
 x_7.snd ∧
 (decK
 x_5).fst =
 x_7.fst ∧
 okK
 x_7 ∧
 (∀
 (y :
 Unit),
 rowsK
 x_7 =
 (1 :
 Nat) →
 ∃
 (y
 :
 Unit),
 True ∧
 decide
 ((1 :
 Int) =
 (2 :
 Int)) =
 true ∧
 True) ∧
 (∀
 (y :
 Unit),
 rowsK
 x_7 =
 (2 :
 Nat) →
 ∃
 (y
 :
 Unit),
 True ∧
 decide
 ((2 :
 Int) =
 (2 :
 Int)) =
 true ∧
 True) ∧
 (∀
 (y :
 Unit),
 rowsK
 x_7 =
 (3 :
 Nat) →
 ∃
 (y
 :
 Unit),
 True ∧
 decide
 ((3 :
 Int) =
 (2 :
 Int)) =
 true ∧
 True) ∧
 ∀
 (y :
 Unit),
 rowsK
 x_7 =
 (4 :
 Nat) →
 ∃
 (y
 :
 Unit),
 True ∧
 decide
 ((4 :
 Int) =
 (2 :
 Int)) =
 true ∧
 True)
 (∃
 (y
 :
 Unit),
 True ∧
 false =
 true ∧
 True))
 (∃
 (y
 :
 Unit),
 True ∧
 false =
 true ∧
 True))
 (∃
 (y
 :
 Unit),
 True ∧
 false =
 true ∧
 True)
theorem o_wake11 : owes Try.prog (tab S2) LqL11 0 12 Try.f12 AwakeZ = T_wake11 := by kernel_rfl
def T_none11 : Prop :=
 ∀ (x : Int × Int × Bool × Int),
 ((0 : Int) ≤ (pA x).fst ∧ (pA x).fst < (18446744073709551616 : Int)) ∧
 (0 : Int) ≤ (pA x).snd.fst ∧ (pA x).snd.fst < (18446744073709551616 : Int) →
 ∃ (x : Unit),
 True ∧
 ∀ (y : Unit),
 True →
 ((0 : Int) ≤ (0 : Int) ∧ (0 : Int) < (2 : Int)) ∧
 ((0 : Int) ≤ (0 : Int) ∧ (0 : Int) < (2 : Int)) ∧
 ((0 : Int) ≤ (0 : Int) ∧ (0 : Int) < (2 : Int)) ∧
 ((0 : Int) ≤ (0 : Int) ∧ (0 : Int) < (2 : Int)) ∧
 ((-9223372036854775808 : Int) ≤ (1 : Int) ∧ (1 : Int) ≤ (9223372036854775807 : Int)) ∧
 ((0 : Int) ≤ (1 : Int) ∧ (1 : Int) < (2 : Int)) ∧
 ((0 : Int) ≤ (1 : Int) ∧ (1 : Int) < (2 : Int)) ∧
 ((0 : Int) ≤ (1 : Int) ∧ (1 : Int) < (2 : Int)) ∧
 ((0 : Int) ≤ (1 : Int) ∧ (1 : Int) < (2 : Int)) ∧
 ((-9223372036854775808 : Int) ≤ (2 : Int) ∧ (2 : Int) ≤ (9223372036854775807 : Int)) ∧
 ∃ (y : Unit), True ∧ true = true ∧ True
theorem o_none11 : owes Try.prog (tab Sn) LqL11 2 4 Try.f4 NoneL = T_none11 := by kernel_rfl
def T_least11 : Prop :=
 ∀ (x : Int × Int × List Pf × Pf),
 ((((0 : Int) ≤ (pA x.snd.snd.snd).fst ∧ (pA x.snd.snd.snd).fst < (18446744073709551616 : Int)) ∧
 (0 : Int) ≤ (pA x.snd.snd.snd).snd.fst ∧ (pA x.snd.snd.snd).snd.fst < (18446744073709551616 : Int)) ∧
 ∀ (q : Int × Int × Bool × Int),
 List.Mem q x.snd.snd.fst →
 ((0 : Int) ≤ (pA q).fst ∧ (pA q).fst < (18446744073709551616 : Int)) ∧
 (0 : Int) ≤ (pA q).snd.fst ∧ (pA q).snd.fst < (18446744073709551616 : Int)) →
 ∃ (x_1 : Unit),
 True ∧
 ∀ (y : Unit),
 True →
 ifB (decide ((80 : Int) < (↑x.snd.snd.fst.length : Int))) (∃ (y : Unit), True ∧ true = true ∧ True)
 (∃ (x_2 : Int × Int),
 x.fst = x_2.fst ∧
 x.snd.fst = x_2.snd ∧
 True ∧
 ∀ (y : Unit),
 True →
 ∃ (I : Int × Int × Int × LI → Prop),
 ∃ (μ : Int × Int × Int × LI → Nat),
 (∃ (x : Int × Int × Int × LI),
 I x ∧
 (0 : Int) = x.fst ∧
 (0 : Int) = x.snd.fst ∧
 (0 : Int) = x.snd.snd.fst ∧ (newK x_2.fst x_2.snd).fst = x.snd.snd.snd ∧ True) ∧
 ∀ (x_3 : Int × Int × Int × LI),
 I x_3 →
 ifB (decide (x_3.fst < (↑x.snd.snd.fst.length : Int)))
 (((0 : Int) ≤ x_3.fst ∧ x_3.fst < (↑x.snd.snd.fst.length : Int)) ∧
 ∃ (x_4 : Sk × Pf),
 (x.snd.snd.fst.getD x_3.fst.toNat
 ((0 : Int), (0 : Int), false, (0 : Int))).fst =
 x_4.snd.fst ∧
 (x.snd.snd.fst.getD x_3.fst.toNat
 ((0 : Int), (0 : Int), false, (0 : Int))).snd.fst =
 x_4.snd.snd.fst ∧
 (x.snd.snd.fst.getD x_3.fst.toNat
 ((0 : Int), (0 : Int), false, (0 : Int))).snd.snd.fst =
 x_4.snd.snd.snd.fst ∧
 (x.snd.snd.fst.getD x_3.fst.toNat
 ((0 : Int), (0 : Int), false, (0 : Int))).snd.snd.snd =
 x_4.snd.snd.snd.snd ∧
 (newK x_2.fst x_2.snd).fst.length = x_4.fst.fst.length ∧
 (newK x_2.fst x_2.snd).snd = x_4.fst.snd ∧
 x_3.snd.snd.snd = x_4.fst.fst ∧
 (okK x_4.fst ∧
 ((0 : Int) ≤ (pA x_4.snd).fst ∧
 (pA x_4.snd).fst < (18446744073709551616 : Int)) ∧
 (0 : Int) ≤ (pA x_4.snd).snd.fst ∧
 (pA x_4.snd).snd.fst < (18446744073709551616 : Int)) ∧
 ∀ (y : Unit),
 True →
 ((0 : Int) ≤ x_3.fst ∧
 x_3.fst < (↑x.snd.snd.fst.length : Int)) ∧
 ∃ (x_5 : Int × Int × Bool × Int),
 (x.snd.snd.fst.getD x_3.fst.toNat
 ((0 : Int), (0 : Int), false,
 (0 : Int))).fst =
 x_5.fst ∧
 (x.snd.snd.fst.getD x_3.fst.toNat
 ((0 : Int), (0 : Int), false,
 (0 : Int))).snd.fst =
 x_5.snd.fst ∧
 (x.snd.snd.fst.getD x_3.fst.toNat
 ((0 : Int), (0 : Int), false,
 (0 : Int))).snd.snd.fst =
 x_5.snd.snd.fst ∧
 (x.snd.snd.fst.getD x_3.fst.toNat
 ((0 : Int), (0 : Int), false,
 (0 : Int))).snd.snd.snd =
 x_5.snd.snd.snd ∧
 (((0 : Int) ≤ (pA x_5).fst ∧
 (pA x_5).fst <
 (18446744073709551616 : Int)) ∧
 (0 : Int) ≤ (pA x_5).snd.fst ∧
 (pA x_5).snd.fst <
 (18446744073709551616 : Int)) ∧
 ∀ (y : Unit),
 True →
 ifB
 (!decide (saneP x_4.snd = saneP x_5))
 (∃ (y : Unit),
 True ∧ false = true ∧ True)
 (ifB (saneP x_4.snd)
 (((-9223372036854775808 : Int) ≤
 x_3.snd.snd.fst + (1 : Int) ∧
 x_3.snd.snd.fst + (1 : Int) ≤
 (9223372036854775807 : Int)) ∧
 ifB (saneP x_4.snd)
 (((0 : Int) ≤ x_3.fst ∧
 x_3.fst <
 (↑x.snd.snd.fst.length :
 Int)) ∧
 ifB
 (decide
 ((x.snd.snd.fst.getD
 x_3.fst.toNat
 ((0 : Int),
 (0 : Int),
 false,
 (0 :
 Int))).fst =
 x.snd.snd.snd.fst) &&
 (decide
 ((x.snd.snd.fst.getD
 x_3.fst.toNat
 ((0 : Int),
 (0 : Int),
 false,
 (0 :
 Int))).snd.fst =
 x.snd.snd.snd.snd.fst) &&
 (decide
 ((x.snd.snd.fst.getD
 x_3.fst.toNat
 ((0 :
 Int),
 (0 :
 Int),
 false,
 (0 :
 Int))).snd.snd.fst =
 x.snd.snd.snd.snd.snd.fst) &&
 decide
 ((x.snd.snd.fst.getD
 x_3.fst.toNat
 ((0 :
 Int),
 (0 :
 Int),
 false,
 (0 :
 Int))).snd.snd.snd =
 x.snd.snd.snd.snd.snd.snd))))
 (((-9223372036854775808 :
 Int) ≤
 x_3.snd.fst +
 (1 : Int) ∧
 x_3.snd.fst +
 (1 : Int) ≤
 (9223372036854775807 :
 Int)) ∧
 ((-9223372036854775808 :
 Int) ≤
 x_3.fst +
 (1 : Int) ∧
 x_3.fst + (1 : Int) ≤
 (9223372036854775807 :
 Int)) ∧
 ∃ (y :
 Int × Int × Int × LI),
 I y ∧
 μ y < μ x_3 ∧
 x_3.fst +
 (1 : Int) =
 y.fst ∧
 x_3.snd.fst +
 (1 :
 Int) =
 y.snd.fst ∧
 x_3.snd.snd.fst +
 (1 :
 Int) =
 y.snd.snd.fst ∧
 (addK
 x_4.fst
 x_4.snd).fst =
 y.snd.snd.snd ∧
 True)
 (((-9223372036854775808 :
 Int) ≤
 x_3.fst + (1 : Int) ∧
 x_3.fst + (1 : Int) ≤
 (9223372036854775807 :
 Int)) ∧
 ∃ (y :
 Int × Int × Int × LI),
 I y ∧
 μ y < μ x_3 ∧
 x_3.fst +
 (1 : Int) =
 y.fst ∧
 x_3.snd.fst =
 y.snd.fst ∧
 x_3.snd.snd.fst +
 (1 :
 Int) =
 y.snd.snd.fst ∧
 (addK x_4.fst
 x_4.snd).fst =
 y.snd.snd.snd ∧
 True))
 (((-9223372036854775808 : Int) ≤
 x_3.fst + (1 : Int) ∧
 x_3.fst + (1 : Int) ≤
 (9223372036854775807 :
 Int)) ∧
 ∃ (y : Int × Int × Int × LI),
 I y ∧
 μ y < μ x_3 ∧
 x_3.fst + (1 : Int) =
 y.fst ∧
 x_3.snd.fst =
 y.snd.fst ∧
 x_3.snd.snd.fst +
 (1 : Int) =
 y.snd.snd.fst ∧
 (addK x_4.fst
 x_4.snd).fst =
 y.snd.snd.snd ∧
 True))
 (ifB (saneP x_4.snd)
 (((0 : Int) ≤ x_3.fst ∧
 x_3.fst <
 (↑x.snd.snd.fst.length :
 Int)) ∧
 ifB
 (decide
 ((x.snd.snd.fst.getD
 x_3.fst.toNat
 ((0 : Int),
 (0 : Int), false,
 (0 : Int))).fst =
 x.snd.snd.snd.fst) &&
 (decide
 ((x.snd.snd.fst.getD
 x_3.fst.toNat
 ((0 : Int),
 (0 : Int),
 false,
 (0 :
 Int))).snd.fst =
 x.snd.snd.snd.snd.fst) &&
 (decide
 ((x.snd.snd.fst.getD
 x_3.fst.toNat
 ((0 : Int),
 (0 : Int),
 false,
 (0 :
 Int))).snd.snd.fst =
 x.snd.snd.snd.snd.snd.fst) &&
 decide
 ((x.snd.snd.fst.getD
 x_3.fst.toNat
 ((0 : Int),
 (0 : Int),
 false,
 (0 :
 Int))).snd.snd.snd =
 x.snd.snd.snd.snd.snd.snd))))
 (((-9223372036854775808 :
 Int) ≤
 x_3.snd.fst +
 (1 : Int) ∧
 x_3.snd.fst + (1 : Int) ≤
 (9223372036854775807 :
 Int)) ∧
 ((-9223372036854775808 :
 Int) ≤
 x_3.fst + (1 : Int) ∧
 x_3.fst + (1 : Int) ≤
 (9223372036854775807 :
 Int)) ∧
 ∃ (y :
 Int × Int × Int × LI),
 I y ∧
 μ y < μ x_3 ∧
 x_3.fst +
 (1 : Int) =
 y.fst ∧
 x_3.snd.fst +
 (1 : Int) =
 y.snd.fst ∧
 x_3.snd.snd.fst =
 y.snd.snd.fst ∧
 (addK x_4.fst
 x_4.snd).fst =
 y.snd.snd.snd ∧
 True)
 (((-9223372036854775808 :
 Int) ≤
 x_3.fst + (1 : Int) ∧
 x_3.fst + (1 : Int) ≤
 (9223372036854775807 :
 Int)) ∧
 ∃ (y :
 Int × Int × Int × LI),
 I y ∧
 μ y < μ x_3 ∧
 x_3.fst + (1 : Int) =
 y.fst ∧
 x_3.snd.fst =
 y.snd.fst ∧
 x_3.snd.snd.fst =
 y.snd.snd.fst ∧
 (addK x_4.fst
 x_4.snd).fst =
 y.snd.snd.snd ∧
 True))
 (((-9223372036854775808 : Int) ≤
 x_3.fst + (1 : Int) ∧
 x_3.fst + (1 : Int) ≤
 (9223372036854775807 :
 Int)) ∧
 ∃ (y : Int × Int × Int × LI),
 I y ∧
 μ y < μ x_3 ∧
 x_3.fst + (1 : Int) =
 y.fst ∧
 x_3.snd.fst =
 y.snd.fst ∧
 x_3.snd.snd.fst =
 y.snd.snd.fst ∧
 (addK x_4.fst
 x_4.snd).fst =
 y.snd.snd.snd ∧
 True))))
 (∃ (x_4 : Sk × Pf),
 x.snd.snd.snd.fst = x_4.snd.fst ∧
 x.snd.snd.snd.snd.fst = x_4.snd.snd.fst ∧
 x.snd.snd.snd.snd.snd.fst = x_4.snd.snd.snd.fst ∧
 x.snd.snd.snd.snd.snd.snd = x_4.snd.snd.snd.snd ∧
 (newK x_2.fst x_2.snd).fst.length = x_4.fst.fst.length ∧
 (newK x_2.fst x_2.snd).snd = x_4.fst.snd ∧
 x_3.snd.snd.snd = x_4.fst.fst ∧
 (okK x_4.fst ∧
 ((0 : Int) ≤ (pA x_4.snd).fst ∧
 (pA x_4.snd).fst < (18446744073709551616 : Int)) ∧
 (0 : Int) ≤ (pA x_4.snd).snd.fst ∧
 (pA x_4.snd).snd.fst < (18446744073709551616 : Int)) ∧
 ∀ (y : Unit),
 True →
 ifB (decide (x_3.snd.fst ≤ countK x_4.fst x_4.snd))
 (ifB (decide (countK x_4.fst x_4.snd ≤ x_3.snd.snd.fst))
 (∃ (y : Unit),
 True ∧
 decide (countK x_4.fst x_4.snd ≤ (255 : Int)) =
 true ∧
 True)
 (∃ (y : Unit), True ∧ false = true ∧ True))
 (∃ (y : Unit), True ∧ false = true ∧ True)))
theorem o_least11 : owes Try.prog (tab S3) LqL11 0 5 Try.f5 LeastL = T_least11 := by kernel_rfl
def T_full11 : Prop :=
 ∀ (x : Int × Int × Pf),
 ((0 : Int) ≤ (pA x.snd.snd).fst ∧ (pA x.snd.snd).fst < (18446744073709551616 : Int)) ∧
 (0 : Int) ≤ (pA x.snd.snd).snd.fst ∧ (pA x.snd.snd).snd.fst < (18446744073709551616 : Int) →
 ∃ (x_1 : Unit),
 True ∧
 ∀ (y : Unit),
 True →
 ∃ (x_2 : Int × Int),
 x.fst = x_2.fst ∧
 x.snd.fst = x_2.snd ∧
 True ∧
 ∀ (y : Unit),
 True →
 ∃ (x_3 : Int × Int × Bool × Int),
 x.snd.snd.fst = x_3.fst ∧
 x.snd.snd.snd.fst = x_3.snd.fst ∧
 x.snd.snd.snd.snd.fst = x_3.snd.snd.fst ∧
 x.snd.snd.snd.snd.snd = x_3.snd.snd.snd ∧
 (((0 : Int) ≤ (pA x_3).fst ∧ (pA x_3).fst < (18446744073709551616 : Int)) ∧
 (0 : Int) ≤ (pA x_3).snd.fst ∧ (pA x_3).snd.fst < (18446744073709551616 : Int)) ∧
 ∀ (y : Unit),
 True →
 ifB (!saneP x_3)
 (∃ (x_4 : Sk × Pf),
 x.snd.snd.fst = x_4.snd.fst ∧
 x.snd.snd.snd.fst = x_4.snd.snd.fst ∧
 x.snd.snd.snd.snd.fst = x_4.snd.snd.snd.fst ∧
 x.snd.snd.snd.snd.snd = x_4.snd.snd.snd.snd ∧
 (newK x_2.fst x_2.snd).fst.length = x_4.fst.fst.length ∧
 (newK x_2.fst x_2.snd).snd = x_4.fst.snd ∧
 (newK x_2.fst x_2.snd).fst = x_4.fst.fst ∧
 (okK x_4.fst ∧
 ((0 : Int) ≤ (pA x_4.snd).fst ∧
 (pA x_4.snd).fst < (18446744073709551616 : Int)) ∧
 (0 : Int) ≤ (pA x_4.snd).snd.fst ∧
 (pA x_4.snd).snd.fst < (18446744073709551616 : Int)) ∧
 ∀ (y : Unit),
 True →
 ∃ (y : Unit),
 True ∧
 decide (countK x_4.fst x_4.snd = (0 : Int)) = true ∧
 True)
 (∃ (I : Int × LI → Prop),
 ∃ (μ : Int × LI → Nat),
 (∃ (x : Int × LI),
 I x ∧ (0 : Int) = x.fst ∧ (newK x_2.fst x_2.snd).fst = x.snd ∧ True) ∧
 ∀ (x_4 : Int × LI),
 I x_4 →
 ifB (decide (x_4.fst < (300 : Int)))
 (∃ (x_5 : Sk × Pf),
 x.snd.snd.fst = x_5.snd.fst ∧
 x.snd.snd.snd.fst = x_5.snd.snd.fst ∧
 x.snd.snd.snd.snd.fst = x_5.snd.snd.snd.fst ∧
 x.snd.snd.snd.snd.snd = x_5.snd.snd.snd.snd ∧
 (newK x_2.fst x_2.snd).fst.length = x_5.fst.fst.length ∧
 (newK x_2.fst x_2.snd).snd = x_5.fst.snd ∧
 x_4.snd = x_5.fst.fst ∧
 (okK x_5.fst ∧
 ((0 : Int) ≤ (pA x_5.snd).fst ∧
 (pA x_5.snd).fst <
 (18446744073709551616 : Int)) ∧
 (0 : Int) ≤ (pA x_5.snd).snd.fst ∧
 (pA x_5.snd).snd.fst <
 (18446744073709551616 : Int)) ∧
 ∀ (y : Unit),
 True →
 ((-9223372036854775808 : Int) ≤
 x_4.fst + (1 : Int) ∧
 x_4.fst + (1 : Int) ≤
 (9223372036854775807 : Int)) ∧
 ∃ (y : Int × LI),
 I y ∧
 μ y < μ x_4 ∧
 x_4.fst + (1 : Int) = y.fst ∧
 (addK x_5.fst x_5.snd).fst =
 y.snd ∧
 True)
 (∃ (x_5 : Sk × Pf),
 x.snd.snd.fst = x_5.snd.fst ∧
 x.snd.snd.snd.fst = x_5.snd.snd.fst ∧
 x.snd.snd.snd.snd.fst = x_5.snd.snd.snd.fst ∧
 x.snd.snd.snd.snd.snd = x_5.snd.snd.snd.snd ∧
 (newK x_2.fst x_2.snd).fst.length = x_5.fst.fst.length ∧
 (newK x_2.fst x_2.snd).snd = x_5.fst.snd ∧
 x_4.snd = x_5.fst.fst ∧
 (okK x_5.fst ∧
 ((0 : Int) ≤ (pA x_5.snd).fst ∧
 (pA x_5.snd).fst <
 (18446744073709551616 : Int)) ∧
 (0 : Int) ≤ (pA x_5.snd).snd.fst ∧
 (pA x_5.snd).snd.fst <
 (18446744073709551616 : Int)) ∧
 ∀ (y : Unit),
 True →
 ∃ (I : Int × LI → Prop),
 ∃ (μ : Int × LI → Nat),
 (∃ (x : Int × LI),
 I x ∧
 (0 : Int) = x.fst ∧
 x_4.snd = x.snd ∧ True) ∧
 ∀ (x_6 : Int × LI),
 I x_6 →
 ifB (decide (x_6.fst < (7 : Int)))
 (∃ (x : List Int × Int),
 (newK x_2.fst
 x_2.snd).fst.length =
 x.fst.length ∧
 (newK x_2.fst x_2.snd).snd =
 x.snd ∧
 x_6.snd = x.fst ∧
 okK x ∧
 ∀ (y : Unit),
 True →
 ((-9223372036854775808 :
 Int) ≤
 x_6.fst +
 (1 :
 Int) ∧
 x_6.fst +
 (1 :
 Int) ≤
 (9223372036854775807 :
 Int)) ∧
 ∃ (y :
 Int × LI),
 I y ∧
 μ y <
 μ x_6 ∧
 x_6.fst +
 (1 :
 Int) =
 y.fst ∧
 (decK
 x).fst =
 y.snd ∧
 True)
 (∃ (x_7 : Sk × Pf),
 x.snd.snd.fst = x_7.snd.fst ∧
 x.snd.snd.snd.fst =
 x_7.snd.snd.fst ∧
 x.snd.snd.snd.snd.fst =
 x_7.snd.snd.snd.fst ∧
 x.snd.snd.snd.snd.snd =
 x_7.snd.snd.snd.snd ∧
 (newK x_2.fst
 x_2.snd).fst.length =
 x_7.fst.fst.length ∧
 (newK x_2.fst
 x_2.snd).snd =
 x_7.fst.snd ∧
 x_6.snd =
 x_7.fst.fst ∧
 (okK x_7.fst ∧
 ((0 : Int) ≤
 (pA
 x_7.snd).fst ∧
 (pA
 x_7.snd).fst <
 (18446744073709551616 :
 Int)) ∧
 (0 :
 Int) ≤
 (pA
 x_7.snd).snd.fst ∧
 (pA
 x_7.snd).snd.fst <
 (18446744073709551616 :
 Int)) ∧
 ∀ (y : Unit),
 True →
 ∃ (x_8 :
 List
 Int ×
 Int),
 (newK
 x_2.fst
 x_2.snd).fst.length =
 x_8.fst.length ∧
 (newK
 x_2.fst
 x_2.snd).snd =
 x_8.snd ∧
 x_6.snd =
 x_8.fst ∧
 okK
 x_8 ∧
 ∀
 (y :
 Unit),
 True →
 ifB
 (decide
 (countK
 x_5.fst
 x_5.snd =
 (255 :
 Int)))
 (ifB
 (decide
 (countK
 x_7.fst
 x_7.snd =
 (1 :
 Int)))
 (∃
 (x_9
 :
 Sk ×
 Pf),
 x.snd.snd.fst =
 x_9.snd.fst ∧
 x.snd.snd.snd.fst =
 x_9.snd.snd.fst ∧
 x.snd.snd.snd.snd.fst =
 x_9.snd.snd.snd.fst ∧
 x.snd.snd.snd.snd.snd =
 x_9.snd.snd.snd.snd ∧
 (newK
 x_2.fst
 x_2.snd).fst.length =
 x_9.fst.fst.length ∧
 (newK
 x_2.fst
 x_2.snd).snd =
 x_9.fst.snd ∧
 (decK
 x_8).fst =
 x_9.fst.fst ∧
 (okK
 x_9.fst ∧
 ((0 :
 Int) ≤
 (pA
 x_9.snd).fst ∧
 (pA
 x_9.snd).fst <
 (18446744073709551616 :
 Int)) ∧
 (0 :
 Int) ≤
 (pA
 x_9.snd).snd.fst ∧
 (pA
 x_9.snd).snd.fst <
 (18446744073709551616 :
 Int)) ∧
 ∀
 (y :
 Unit),
 True →
 ∃
 (y
 :
 Unit),
 True ∧
 decide
 (countK
 x_9.fst
 x_9.snd =
 (0 :
 Int)) =
 true ∧
 True)
 (∃
 (y
 :
 Unit),
 True ∧
 false =
 true ∧
 True))
 (∃
 (y
 :
 Unit),
 True ∧
 false =
 true ∧
 True))))
theorem o_full11 : owes Try.prog (tab S3) LqL11 0 6 Try.f6 FullL = T_full11 := by kernel_rfl
def T_apart11 : Prop :=
 ∀ (x : Int × Int × List (Bool × Pf) × Pf),
 ((((0 : Int) ≤ (pA x.snd.snd.snd).fst ∧ (pA x.snd.snd.snd).fst < (18446744073709551616 : Int)) ∧
 (0 : Int) ≤ (pA x.snd.snd.snd).snd.fst ∧ (pA x.snd.snd.snd).snd.fst < (18446744073709551616 : Int)) ∧
 ∀ (q : Bool × Pf),
 List.Mem q x.snd.snd.fst →
 ((0 : Int) ≤ (pA q.snd).fst ∧ (pA q.snd).fst < (18446744073709551616 : Int)) ∧
 (0 : Int) ≤ (pA q.snd).snd.fst ∧ (pA q.snd).snd.fst < (18446744073709551616 : Int)) →
 ∃ (x_1 : Unit),
 True ∧
 ∀ (y : Unit),
 True →
 ifB (decide ((80 : Int) < (↑x.snd.snd.fst.length : Int))) (∃ (y : Unit), True ∧ true = true ∧ True)
 (∃ (x_2 : Int × Int),
 x.fst = x_2.fst ∧
 x.snd.fst = x_2.snd ∧
 True ∧
 ∀ (y : Unit),
 True →
 ∃ (I : Int × LI → Prop),
 ∃ (μ : Int × LI → Nat),
 (∃ (x : Int × LI), I x ∧ (0 : Int) = x.fst ∧ (newK x_2.fst x_2.snd).fst = x.snd ∧ True) ∧
 ∀ (x_3 : Int × LI),
 I x_3 →
 ifB (decide (x_3.fst < (↑x.snd.snd.fst.length : Int)))
 (∃ (x_4 : Sk × Pf),
 x.snd.snd.snd.fst = x_4.snd.fst ∧
 x.snd.snd.snd.snd.fst = x_4.snd.snd.fst ∧
 x.snd.snd.snd.snd.snd.fst = x_4.snd.snd.snd.fst ∧
 x.snd.snd.snd.snd.snd.snd = x_4.snd.snd.snd.snd ∧
 (newK x_2.fst x_2.snd).fst.length = x_4.fst.fst.length ∧
 (newK x_2.fst x_2.snd).snd = x_4.fst.snd ∧
 x_3.snd = x_4.fst.fst ∧
 (okK x_4.fst ∧
 ((0 : Int) ≤ (pA x_4.snd).fst ∧
 (pA x_4.snd).fst < (18446744073709551616 : Int)) ∧
 (0 : Int) ≤ (pA x_4.snd).snd.fst ∧
 (pA x_4.snd).snd.fst < (18446744073709551616 : Int)) ∧
 ∀ (y : Unit),
 True →
 ((0 : Int) ≤ x_3.fst ∧
 x_3.fst < (↑x.snd.snd.fst.length : Int)) ∧
 ifB
 (x.snd.snd.fst.getD x_3.fst.toNat
 (false, (0 : Int), (0 : Int), false, (0 : Int))).fst
 (∃ (x_5 : List Int × Int),
 (newK x_2.fst x_2.snd).fst.length = x_5.fst.length ∧
 (newK x_2.fst x_2.snd).snd = x_5.snd ∧
 x_3.snd = x_5.fst ∧
 okK x_5 ∧
 ∀ (y : Unit),
 True →
 ∃ (x_6 : Sk × Pf),
 x.snd.snd.snd.fst = x_6.snd.fst ∧
 x.snd.snd.snd.snd.fst =
 x_6.snd.snd.fst ∧
 x.snd.snd.snd.snd.snd.fst =
 x_6.snd.snd.snd.fst ∧
 x.snd.snd.snd.snd.snd.snd =
 x_6.snd.snd.snd.snd ∧
 (newK x_2.fst
 x_2.snd).fst.length =
 x_6.fst.fst.length ∧
 (newK x_2.fst x_2.snd).snd =
 x_6.fst.snd ∧
 (decK x_5).fst =
 x_6.fst.fst ∧
 (okK x_6.fst ∧
 ((0 : Int) ≤
 (pA
 x_6.snd).fst ∧
 (pA x_6.snd).fst <
 (18446744073709551616 :
 Int)) ∧
 (0 : Int) ≤
 (pA
 x_6.snd).snd.fst ∧
 (pA
 x_6.snd).snd.fst <
 (18446744073709551616 :
 Int)) ∧
 ∀ (y : Unit),
 True →
 ((0 : Int) ≤
 countK x_4.fst
 x_4.snd ∧
 (0 : Int) <
 (2 : Int)) ∧
 ifB
 (!decide
 (countK
 x_6.fst
 x_6.snd =
 countK
 x_4.fst
 x_4.snd /
 (2 :
 Int)))
 (∃ (y : Unit),
 True ∧
 false =
 true ∧
 True)
 (((-9223372036854775808 :
 Int) ≤
 x_3.fst +
 (1 :
 Int) ∧
 x_3.fst +
 (1 :
 Int) ≤
 (9223372036854775807 :
 Int)) ∧
 ∃ (y :
 Int × LI),
 I y ∧
 μ y <
 μ
 x_3 ∧
 x_3.fst +
 (1 :
 Int) =
 y.fst ∧
 (decK
 x_5).fst =
 y.snd ∧
 True))
 (((0 : Int) ≤ x_3.fst ∧
 x_3.fst < (↑x.snd.snd.fst.length : Int)) ∧
 ∃ (x_5 : Sk × Pf),
 (x.snd.snd.fst.getD x_3.fst.toNat
 (false, (0 : Int), (0 : Int), false,
 (0 : Int))).snd.fst =
 x_5.snd.fst ∧
 (x.snd.snd.fst.getD x_3.fst.toNat
 (false, (0 : Int), (0 : Int), false,
 (0 : Int))).snd.snd.fst =
 x_5.snd.snd.fst ∧
 (x.snd.snd.fst.getD x_3.fst.toNat
 (false, (0 : Int), (0 : Int),
 false,
 (0 : Int))).snd.snd.snd.fst =
 x_5.snd.snd.snd.fst ∧
 (x.snd.snd.fst.getD x_3.fst.toNat
 (false, (0 : Int), (0 : Int),
 false,
 (0 : Int))).snd.snd.snd.snd =
 x_5.snd.snd.snd.snd ∧
 (newK x_2.fst x_2.snd).fst.length =
 x_5.fst.fst.length ∧
 (newK x_2.fst x_2.snd).snd = x_5.fst.snd ∧
 x_3.snd = x_5.fst.fst ∧
 (okK x_5.fst ∧
 ((0 : Int) ≤ (pA x_5.snd).fst ∧
 (pA x_5.snd).fst <
 (18446744073709551616 :
 Int)) ∧
 (0 : Int) ≤
 (pA x_5.snd).snd.fst ∧
 (pA x_5.snd).snd.fst <
 (18446744073709551616 :
 Int)) ∧
 ∀ (y : Unit),
 True →
 ∃ (x_6 : Sk × Pf),
 x.snd.snd.snd.fst =
 x_6.snd.fst ∧
 x.snd.snd.snd.snd.fst =
 x_6.snd.snd.fst ∧
 x.snd.snd.snd.snd.snd.fst =
 x_6.snd.snd.snd.fst ∧
 x.snd.snd.snd.snd.snd.snd =
 x_6.snd.snd.snd.snd ∧
 (newK x_2.fst
 x_2.snd).fst.length =
 x_6.fst.fst.length ∧
 (newK x_2.fst
 x_2.snd).snd =
 x_6.fst.snd ∧
 (addK x_5.fst
 x_5.snd).fst =
 x_6.fst.fst ∧
 (okK x_6.fst ∧
 ((0 : Int) ≤
 (pA
 x_6.snd).fst ∧
 (pA
 x_6.snd).fst <
 (18446744073709551616 :
 Int)) ∧
 (0 :
 Int) ≤
 (pA
 x_6.snd).snd.fst ∧
 (pA
 x_6.snd).snd.fst <
 (18446744073709551616 :
 Int)) ∧
 ∀ (y : Unit),
 True →
 ifB
 (decide
 (countK
 x_6.fst
 x_6.snd <
 countK
 x_4.fst
 x_4.snd))
 (∃ (y :
 Unit),
 True ∧
 false =
 true ∧
 True)
 (((-9223372036854775808 :
 Int) ≤
 countK
 x_4.fst
 x_4.snd +
 (1 :
 Int) ∧
 countK
 x_4.fst
 x_4.snd +
 (1 :
 Int) ≤
 (9223372036854775807 :
 Int)) ∧
 ifB
 (decide
 (countK
 x_4.fst
 x_4.snd +
 (1 :
 Int) <
 countK
 x_6.fst
 x_6.snd))
 (∃
 (y
 :
 Unit),
 True ∧
 false =
 true ∧
 True)
 (ifB
 (saneP
 x_5.snd)
 (((0 :
 Int) ≤
 x_3.fst ∧
 x_3.fst <
 (↑x.snd.snd.fst.length :
 Int)) ∧
 ifB
 (decide
 ((x.snd.snd.fst.getD
 x_3.fst.toNat
 (false,
 (0 :
 Int),
 (0 :
 Int),
 false,
 (0 :
 Int))).snd.fst =
 x.snd.snd.snd.fst) &&
 (decide
 ((x.snd.snd.fst.getD
 x_3.fst.toNat
 (false,
 (0 :
 Int),
 (0 :
 Int),
 false,
 (0 :
 Int))).snd.snd.fst =
 x.snd.snd.snd.snd.fst) &&
 (decide
 ((x.snd.snd.fst.getD
 x_3.fst.toNat
 (false,
 (0 :
 Int),
 (0 :
 Int),
 false,
 (0 :
 Int))).snd.snd.snd.fst =
 x.snd.snd.snd.snd.snd.fst) &&
 decide
 ((x.snd.snd.fst.getD
 x_3.fst.toNat
 (false,
 (0 :
 Int),
 (0 :
 Int),
 false,
 (0 :
 Int))).snd.snd.snd.snd =
 x.snd.snd.snd.snd.snd.snd))))
 (((-9223372036854775808 :
 Int) ≤
 countK
 x_4.fst
 x_4.snd +
 (1 :
 Int) ∧
 countK
 x_4.fst
 x_4.snd +
 (1 :
 Int) ≤
 (9223372036854775807 :
 Int)) ∧
 ifB
 (!decide
 (countK
 x_6.fst
 x_6.snd =
 min
 (255 :
 Int)
 (countK
 x_4.fst
 x_4.snd +
 (1 :
 Int))))
 (∃
 (y
 :
 Unit),
 True ∧
 false =
 true ∧
 True)
 (ifB
 (!saneP
 x_5.snd)
 (ifB
 (!decide
 (countK
 x_6.fst
 x_6.snd =
 countK
 x_4.fst
 x_4.snd))
 (∃
 (y
 :
 Unit),
 True ∧
 false =
 true ∧
 True)
 (((-9223372036854775808 :
 Int) ≤
 x_3.fst +
 (1 :
 Int) ∧
 x_3.fst +
 (1 :
 Int) ≤
 (9223372036854775807 :
 Int)) ∧
 ∃
 (y
 :
 Int ×
 LI),
 I
 y ∧
 μ
 y <
 μ
 x_3 ∧
 x_3.fst +
 (1 :
 Int) =
 y.fst ∧
 (addK
 x_5.fst
 x_5.snd).fst =
 y.snd ∧
 True))
 (((-9223372036854775808 :
 Int) ≤
 x_3.fst +
 (1 :
 Int) ∧
 x_3.fst +
 (1 :
 Int) ≤
 (9223372036854775807 :
 Int)) ∧
 ∃
 (y
 :
 Int ×
 LI),
 I
 y ∧
 μ
 y <
 μ
 x_3 ∧
 x_3.fst +
 (1 :
 Int) =
 y.fst ∧
 (addK
 x_5.fst
 x_5.snd).fst =
 y.snd ∧
 True)))
 (ifB
 (!saneP
 x_5.snd)
 (ifB
 (!decide
 (countK
 x_6.fst
 x_6.snd =
 countK
 x_4.fst
 x_4.snd))
 (∃
 (y
 :
 Unit),
 True ∧
 false =
 true ∧
 True)
 (((-9223372036854775808 :
 Int) ≤
 x_3.fst +
 (1 :
 Int) ∧
 x_3.fst +
 (1 :
 Int) ≤
 (9223372036854775807 :
 Int)) ∧
 ∃
 (y
 :
 Int ×
 LI),
 I
 y ∧
 μ
 y <
 μ
 x_3 ∧
 x_3.fst +
 (1 :
 Int) =
 y.fst ∧
 (addK
 x_5.fst
 x_5.snd).fst =
 y.snd ∧
 True))
 (((-9223372036854775808 :
 Int) ≤
 x_3.fst +
 (1 :
 Int) ∧
 x_3.fst +
 (1 :
 Int) ≤
 (9223372036854775807 :
 Int)) ∧
 ∃
 (y
 :
 Int ×
 LI),
 I
 y ∧
 μ
 y <
 μ
 x_3 ∧
 x_3.fst +
 (1 :
 Int) =
 y.fst ∧
 (addK
 x_5.fst
 x_5.snd).fst =
 y.snd ∧
 True)))
 (ifB
 (!saneP
 x_5.snd)
 (ifB
 (!decide
 (countK
 x_6.fst
 x_6.snd =
 countK
 x_4.fst
 x_4.snd))
 (∃
 (y
 :
 Unit),
 True ∧
 false =
 true ∧
 True)
 (((-9223372036854775808 :
 Int) ≤
 x_3.fst +
 (1 :
 Int) ∧
 x_3.fst +
 (1 :
 Int) ≤
 (9223372036854775807 :
 Int)) ∧
 ∃
 (y
 :
 Int ×
 LI),
 I
 y ∧
 μ
 y <
 μ
 x_3 ∧
 x_3.fst +
 (1 :
 Int) =
 y.fst ∧
 (addK
 x_5.fst
 x_5.snd).fst =
 y.snd ∧
 True))
 (((-9223372036854775808 :
 Int) ≤
 x_3.fst +
 (1 :
 Int) ∧
 x_3.fst +
 (1 :
 Int) ≤
 (9223372036854775807 :
 Int)) ∧
 ∃
 (y
 :
 Int ×
 LI),
 I
 y ∧
 μ
 y <
 μ
 x_3 ∧
 x_3.fst +
 (1 :
 Int) =
 y.fst ∧
 (addK
 x_5.fst
 x_5.snd).fst =
 y.snd ∧
 True))))))
 (∃ (x_4 : Int × Int × Bool × Int),
 x.snd.snd.snd.fst = x_4.fst ∧
 x.snd.snd.snd.snd.fst = x_4.snd.fst ∧
 x.snd.snd.snd.snd.snd.fst = x_4.snd.snd.fst ∧
 x.snd.snd.snd.snd.snd.snd = x_4.snd.snd.snd ∧
 (((0 : Int) ≤ (pA x_4).fst ∧
 (pA x_4).fst < (18446744073709551616 : Int)) ∧
 (0 : Int) ≤ (pA x_4).snd.fst ∧
 (pA x_4).snd.fst < (18446744073709551616 : Int)) ∧
 ∀ (y : Unit),
 True →
 ifB (saneP x_4)
 (∃ (x_5 : Int × Pf),
 (1 : Int) = x_5.fst ∧
 x.snd.snd.snd.fst = x_5.snd.fst ∧
 x.snd.snd.snd.snd.fst = x_5.snd.snd.fst ∧
 x.snd.snd.snd.snd.snd.fst = x_5.snd.snd.snd.fst ∧
 x.snd.snd.snd.snd.snd.snd = x_5.snd.snd.snd.snd ∧
 (((0 : Int) ≤ (pA x_5.snd).fst ∧
 (pA x_5.snd).fst <
 (18446744073709551616 : Int)) ∧
 (0 : Int) ≤ (pA x_5.snd).snd.fst ∧
 (pA x_5.snd).snd.fst <
 (18446744073709551616 : Int)) ∧
 ∀ (y : Unit),
 True →
 ∃ (x_6 : Int × Pf),
 (257 : Int) = x_6.fst ∧
 x.snd.snd.snd.fst = x_6.snd.fst ∧
 x.snd.snd.snd.snd.fst =
 x_6.snd.snd.fst ∧
 x.snd.snd.snd.snd.snd.fst =
 x_6.snd.snd.snd.fst ∧
 x.snd.snd.snd.snd.snd.snd =
 x_6.snd.snd.snd.snd ∧
 (((0 : Int) ≤ (pA x_6.snd).fst ∧
 (pA x_6.snd).fst <
 (18446744073709551616 :
 Int)) ∧
 (0 : Int) ≤
 (pA x_6.snd).snd.fst ∧
 (pA x_6.snd).snd.fst <
 (18446744073709551616 :
 Int)) ∧
 ∀ (y : Unit),
 True →
 ∃ (y : Unit),
 True ∧
 decide
 (hashP x_5.fst
 x_5.snd =
 hashP x_6.fst
 x_6.snd) =
 true ∧
 True)
 (∃ (x_5 : Sk × Pf),
 x.snd.snd.snd.fst = x_5.snd.fst ∧
 x.snd.snd.snd.snd.fst = x_5.snd.snd.fst ∧
 x.snd.snd.snd.snd.snd.fst = x_5.snd.snd.snd.fst ∧
 x.snd.snd.snd.snd.snd.snd = x_5.snd.snd.snd.snd ∧
 (newK x_2.fst x_2.snd).fst.length =
 x_5.fst.fst.length ∧
 (newK x_2.fst x_2.snd).snd = x_5.fst.snd ∧
 x_3.snd = x_5.fst.fst ∧
 (okK x_5.fst ∧
 ((0 : Int) ≤ (pA x_5.snd).fst ∧
 (pA x_5.snd).fst <
 (18446744073709551616 : Int)) ∧
 (0 : Int) ≤ (pA x_5.snd).snd.fst ∧
 (pA x_5.snd).snd.fst <
 (18446744073709551616 : Int)) ∧
 ∀ (y : Unit),
 True →
 ifB
 (decide
 (countK x_5.fst x_5.snd = (0 : Int)))
 (∃ (x_6 : Int × Pf),
 (1 : Int) = x_6.fst ∧
 x.snd.snd.snd.fst = x_6.snd.fst ∧
 x.snd.snd.snd.snd.fst =
 x_6.snd.snd.fst ∧
 x.snd.snd.snd.snd.snd.fst =
 x_6.snd.snd.snd.fst ∧
 x.snd.snd.snd.snd.snd.snd =
 x_6.snd.snd.snd.snd ∧
 (((0 : Int) ≤
 (pA x_6.snd).fst ∧
 (pA x_6.snd).fst <
 (18446744073709551616 :
 Int)) ∧
 (0 : Int) ≤
 (pA
 x_6.snd).snd.fst ∧
 (pA x_6.snd).snd.fst <
 (18446744073709551616 :
 Int)) ∧
 ∀ (y : Unit),
 True →
 ∃ (x_7 : Int × Pf),
 (257 : Int) =
 x_7.fst ∧
 x.snd.snd.snd.fst =
 x_7.snd.fst ∧
 x.snd.snd.snd.snd.fst =
 x_7.snd.snd.fst ∧
 x.snd.snd.snd.snd.snd.fst =
 x_7.snd.snd.snd.fst ∧
 x.snd.snd.snd.snd.snd.snd =
 x_7.snd.snd.snd.snd ∧
 (((0 :
 Int) ≤
 (pA
 x_7.snd).fst ∧
 (pA
 x_7.snd).fst <
 (18446744073709551616 :
 Int)) ∧
 (0 :
 Int) ≤
 (pA
 x_7.snd).snd.fst ∧
 (pA
 x_7.snd).snd.fst <
 (18446744073709551616 :
 Int)) ∧
 ∀
 (y :
 Unit),
 True →
 ∃ (y
 :
 Unit),
 True ∧
 decide
 (hashP
 x_6.fst
 x_6.snd =
 hashP
 x_7.fst
 x_7.snd) =
 true ∧
 True)
 (∃ (y : Unit),
 True ∧ false = true ∧ True))))
theorem o_apart11 : owes Try.prog (tab S3) LqL11 0 7 Try.f7 ApartL = T_apart11 := by kernel_rfl
end Sp
