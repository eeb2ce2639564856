/- Printed by sx.py, a program of this work: what the walks of some functions owe. -/
import Derived.Test.YtcilcmbailoeaaaSpL21
import Derived.ProofKit
set_option linter.all false
set_option maxRecDepth 100000
namespace Sp
open Go Go.Proofs Sx
def T_aw21 : Prop :=
 ∀ (x : Unit),
 True →
 (0 : Nat) < (1 : Nat) ∧
 ∃ (x : H6 × List Int),
 (0 : Int) = x.fst.fst ∧
 (0 : Int) = x.fst.snd.fst ∧
 (0 : Int) = x.fst.snd.snd.fst ∧
 (0 : Int) = x.fst.snd.snd.snd.fst ∧
 (2 : Int) = x.fst.snd.snd.snd.snd.fst ∧
 (2306139568115548160 : Int) = x.fst.snd.snd.snd.snd.snd.fst ∧
 (9 : Int) = x.fst.snd.snd.snd.snd.snd.snd.fst ∧
 true = x.fst.snd.snd.snd.snd.snd.snd.snd.fst ∧
 (2306139568115548160 : Int) = x.fst.snd.snd.snd.snd.snd.snd.snd.snd.fst ∧
 (9 : Int) = x.fst.snd.snd.snd.snd.snd.snd.snd.snd.snd.fst ∧
 true = x.fst.snd.snd.snd.snd.snd.snd.snd.snd.snd.snd ∧
 (1 : Nat) = x.snd.length ∧
 [(120 : Int)] = x.snd ∧
 (((((0 : Int) ≤ (src6 x.fst).fst ∧ (src6 x.fst).fst < (18446744073709551616 : Int)) ∧
 (0 : Int) ≤ (src6 x.fst).snd.fst ∧
 (src6 x.fst).snd.fst < (18446744073709551616 : Int)) ∧
 ((0 : Int) ≤ (dst6 x.fst).fst ∧
 (dst6 x.fst).fst < (18446744073709551616 : Int)) ∧
 (0 : Int) ≤ (dst6 x.fst).snd.fst ∧
 (dst6 x.fst).snd.fst < (18446744073709551616 : Int)) ∧
 ∀ (x_1 : Int), List.Mem x_1 x.snd → (0 : Int) ≤ x_1 ∧ x_1 ≤ (255 : Int)) ∧
 ∀ (y : Unit),
 True →
 ∃ (x_1 : List Int),
 (build6 x.fst x.snd).length = x_1.length ∧
 build6 x.fst x.snd = x_1 ∧
 ((∀ (x : Int), List.Mem x x_1 → (0 : Int) ≤ x ∧ x ≤ (255 : Int)) ∧
 x_1.length ≤ most) ∧
 ∀ (y : Unit),
 True →
 ∃ (x : List Int),
 (hop6 x_1).fst.length = x.length ∧
 (hop6 x_1).fst = x ∧
 ((∀ (x_2 : Int),
 List.Mem x_2 x → (0 : Int) ≤ x_2 ∧ x_2 ≤ (255 : Int)) ∧
 x.length ≤ most) ∧
 ∀ (y : Unit),
 True →
 ∃ (x_2 : List Int),
 (hop6 x_1).fst.length = x_2.length ∧
 (hop6 x_1).fst = x_2 ∧
 ((∀ (x : Int),
 List.Mem x x_2 →
 (0 : Int) ≤ x ∧ x ≤ (255 : Int)) ∧
 x_2.length ≤ most) ∧
 ∀ (y : Unit),
 True →
 ifB (hop6 x_1).snd
 (ifB (!(hop6 x).snd)
 (ifB
 (decide
 ((parse6 x_2).snd = (0 : Int)))
 (ifB
 (decide
 ((parse6
 x_2).fst.snd.snd.snd.snd.fst =
 (1 : Int)))
 (ifB
 (decide
 ((parse6 x_2).fst.snd.snd.fst =
 (1 : Int)))
 (∃ (y : Unit),
 True ∧
 (decide
 ((parse6
 x_2).fst.snd.snd.snd.snd.snd.snd.snd.snd.fst =
 (2306139568115548160 :
 Int)) &&
 (decide
 ((parse6
 x_2).fst.snd.snd.snd.snd.snd.snd.snd.snd.snd.fst =
 (9 : Int)) &&
 decide
 ((parse6
 x_2).fst.snd.snd.snd.snd.snd.snd.snd.snd.snd.snd =
 true))) =
 true ∧
 True)
 (∃ (y : Unit),
 True ∧ false = true ∧ True))
 (∃ (y : Unit),
 True ∧ false = true ∧ True))
 (∃ (y : Unit),
 True ∧ false = true ∧ True))
 (∃ (y : Unit),
 True ∧ false = true ∧ True))
 (∃ (y : Unit),
 True ∧ false = true ∧ True)
theorem o_aw21 : owes Try.prog (tab J3) LqL21 1 79 Try.f79 Aw21 = T_aw21 := by kernel_rfl
def T_short6 : Prop :=
 ∀ (x : List Int × List Int),
 ((∀ (x_1 : Int), List.Mem x_1 x.fst → (0 : Int) ≤ x_1 ∧ x_1 ≤ (255 : Int)) ∧
 ∀ (x_1 : Int), List.Mem x_1 x.snd → (0 : Int) ≤ x_1 ∧ x_1 ≤ (255 : Int)) →
 ∃ (x_1 : Unit),
 True ∧
 ∀ (y : Unit),
 True →
 ifB (decide ((3000 : Int) < (↑x.fst.length : Int))) (∃ (y : Unit), True ∧ true = true ∧ True)
 (ifB (decide ((100 : Int) < (↑x.snd.length : Int))) (∃ (y : Unit), True ∧ true = true ∧ True)
 (∃ (x_2 : List Int),
 x.fst.length = x_2.length ∧
 x.fst = x_2 ∧
 ((∀ (x : Int), List.Mem x x_2 → (0 : Int) ≤ x ∧ x ≤ (255 : Int)) ∧ x_2.length ≤ most) ∧
 ∀ (y : Unit),
 True →
 ifB (!decide ((parse6 x_2).snd = (0 : Int)))
 (∃ (y : Unit),
 True ∧
 (decide ((parse6 x_2).fst.fst = (0 : Int)) &&
 (decide ((parse6 x_2).fst.snd.fst = (0 : Int)) &&
 (decide ((parse6 x_2).fst.snd.snd.fst = (0 : Int)) &&
 (decide ((parse6 x_2).fst.snd.snd.snd.fst = (0 : Int)) &&
 (decide ((parse6 x_2).fst.snd.snd.snd.snd.fst = (0 : Int)) &&
 (decide ((parse6 x_2).fst.snd.snd.snd.snd.snd.fst = (0 : Int)) &&
 (decide ((parse6 x_2).fst.snd.snd.snd.snd.snd.snd.fst = (0 : Int)) &&
 (decide
 ((parse6 x_2).fst.snd.snd.snd.snd.snd.snd.snd.fst = false) &&
 (decide
 ((parse6 x_2).fst.snd.snd.snd.snd.snd.snd.snd.snd.fst =
 (0 : Int)) &&
 (decide
 ((parse6 x_2).fst.snd.snd.snd.snd.snd.snd.snd.snd.snd.fst =
 (0 : Int)) &&
 decide
 ((parse6 x_2).fst.snd.snd.snd.snd.snd.snd.snd.snd.snd.snd =
 false))))))))))) =
 true ∧
 True)
 (((-9223372036854775808 : Int) ≤ (40 : Int) + (parse6 x_2).fst.snd.snd.fst ∧
 (40 : Int) + (parse6 x_2).fst.snd.snd.fst ≤ (9223372036854775807 : Int)) ∧
 ifB (decide ((↑x.fst.length : Int) < (40 : Int) + (parse6 x_2).fst.snd.snd.fst))
 (∃ (y : Unit), True ∧ false = true ∧ True)
 (((0 : Int) ≤ (40 : Int) + (parse6 x_2).fst.snd.snd.fst ∧
 (40 : Int) + (parse6 x_2).fst.snd.snd.fst ≤ (↑x.fst.length : Int)) ∧
 (((0 : Nat) +
 (List.drop (0 : Nat)
 (List.take ((40 : Int) + (parse6 x_2).fst.snd.snd.fst).toNat
 x.fst)).length) *
 (1 : Nat) ≤
 (140737488355328 : Nat) ∧
 (0 : Nat) +
 (List.drop (0 : Nat)
 (List.take ((40 : Int) + (parse6 x_2).fst.snd.snd.fst).toNat
 x.fst)).length ≤
 (140737488355328 : Nat)) ∧
 (((0 : Nat) +
 (List.drop (0 : Nat)
 (List.take ((40 : Int) + (parse6 x_2).fst.snd.snd.fst).toNat
 x.fst)).length +
 x.snd.length) *
 (1 : Nat) ≤
 (140737488355328 : Nat) ∧
 (0 : Nat) +
 (List.drop (0 : Nat)
 (List.take ((40 : Int) + (parse6 x_2).fst.snd.snd.fst).toNat
 x.fst)).length +
 x.snd.length ≤
 (140737488355328 : Nat)) ∧
 ∃ (x_3 : List Int),
 (0 : Nat) +
 (List.drop (0 : Nat)
 (List.take ((40 : Int) + (parse6 x_2).fst.snd.snd.fst).toNat
 x.fst)).length +
 x.snd.length =
 x_3.length ∧
 [] ++
 List.drop (0 : Nat)
 (List.take ((40 : Int) + (parse6 x_2).fst.snd.snd.fst).toNat
 x.fst) ++
 x.snd =
 x_3 ∧
 ((∀ (x : Int), List.Mem x x_3 → (0 : Int) ≤ x ∧ x ≤ (255 : Int)) ∧
 x_3.length ≤ most) ∧
 ∀ (y : Unit),
 True →
 ((-9223372036854775808 : Int) ≤
 (40 : Int) + (parse6 x_2).fst.snd.snd.fst - (1 : Int) ∧
 (40 : Int) + (parse6 x_2).fst.snd.snd.fst - (1 : Int) ≤
 (9223372036854775807 : Int)) ∧
 ((0 : Int) ≤
 (40 : Int) + (parse6 x_2).fst.snd.snd.fst - (1 : Int) ∧
 (40 : Int) + (parse6 x_2).fst.snd.snd.fst - (1 : Int) ≤
 (↑x.fst.length : Int)) ∧
 ∃ (x_4 : List Int),
 ((40 : Int) + (parse6 x_2).fst.snd.snd.fst -
 (1 : Int)).toNat -
 (0 : Nat) =
 x_4.length ∧
 List.drop (0 : Nat)
 (List.take
 ((40 : Int) + (parse6 x_2).fst.snd.snd.fst -
 (1 : Int)).toNat
 x.fst) =
 x_4 ∧
 ((∀ (x : Int),
 List.Mem x x_4 → (0 : Int) ≤ x ∧ x ≤ (255 : Int)) ∧
 x_4.length ≤ most) ∧
 ∀ (y : Unit),
 True →
 ifB (decide ((parse6 x_3).snd = (0 : Int)))
 (ifB
 (decide
 ((parse6 x_3).fst.fst =
 (parse6 x_2).fst.fst) &&
 (decide
 ((parse6 x_3).fst.snd.fst =
 (parse6 x_2).fst.snd.fst) &&
 (decide
 ((parse6 x_3).fst.snd.snd.fst =
 (parse6 x_2).fst.snd.snd.fst) &&
 (decide
 ((parse6 x_3).fst.snd.snd.snd.fst =
 (parse6 x_2).fst.snd.snd.snd.fst) &&
 (decide
 ((parse6
 x_3).fst.snd.snd.snd.snd.fst =
 (parse6
 x_2).fst.snd.snd.snd.snd.fst) &&
 (decide
 ((parse6
 x_3).fst.snd.snd.snd.snd.snd.fst =
 (parse6
 x_2).fst.snd.snd.snd.snd.snd.fst) &&
 (decide
 ((parse6
 x_3).fst.snd.snd.snd.snd.snd.snd.fst =
 (parse6
 x_2).fst.snd.snd.snd.snd.snd.snd.fst) &&
 (decide
 ((parse6
 x_3).fst.snd.snd.snd.snd.snd.snd.snd.fst =
 (parse6
 x_2).fst.snd.snd.snd.snd.snd.snd.snd.fst) &&
 (decide
 ((parse6
 x_3).fst.snd.snd.snd.snd.snd.snd.snd.snd.fst =
 (parse6
 x_2).fst.snd.snd.snd.snd.snd.snd.snd.snd.fst) &&
 (decide
 ((parse6
 x_3).fst.snd.snd.snd.snd.snd.snd.snd.snd.snd.fst =
 (parse6
 x_2).fst.snd.snd.snd.snd.snd.snd.snd.snd.snd.fst) &&
 decide
 ((parse6
 x_3).fst.snd.snd.snd.snd.snd.snd.snd.snd.snd.snd =
 (parse6
 x_2).fst.snd.snd.snd.snd.snd.snd.snd.snd.snd.snd)))))))))))
 (ifB (decide ((parse6 x_4).snd = (4 : Int)))
 (∃ (y : Unit), True ∧ true = true ∧ True)
 (ifB (decide ((parse6 x_4).snd = (1 : Int)))
 (∃ (y : Unit),
 True ∧
 decide
 ((40 : Int) +
 (parse6 x_2).fst.snd.snd.fst =
 (40 : Int)) =
 true ∧
 True)
 (∃ (y : Unit),
 True ∧ false = true ∧ True)))
 (∃ (y : Unit), True ∧ false = true ∧ True))
 (∃ (y : Unit), True ∧ false = true ∧ True)))))
theorem o_short6 : owes Try.prog (tab L21) LqL21 1 25 Try.f25 Short6L = T_short6 := by kernel_rfl
end Sp
