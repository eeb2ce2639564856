/- Printed by sx.py, a program of this work: what the walks of some functions owe. -/
import Derived.Test.YtcilcmbailoeaaaSpL21
import Derived.ProofKit
set_option linter.all false
set_option maxRecDepth 100000
namespace Sp
open Go Go.Proofs Sx
def T_wrong6 : Prop :=
 ∀ (x : List Int × Int),
 (∀ (x_1 : Int), List.Mem x_1 x.fst → (0 : Int) ≤ x_1 ∧ x_1 ≤ (255 : Int)) ∧ (0 : Int) ≤ x.snd ∧ x.snd ≤ (255 : Int) →
 ∃ (x_1 : Unit),
 True ∧
 ∀ (y : Unit),
 True →
 ifB (decide ((3000 : Int) < (↑x.fst.length : Int))) (∃ (y : Unit), True ∧ true = true ∧ True)
 (∃ (x_2 : List Int),
 x.fst.length = x_2.length ∧
 x.fst = x_2 ∧
 ((∀ (x : Int), List.Mem x x_2 → (0 : Int) ≤ x ∧ x ≤ (255 : Int)) ∧ x_2.length ≤ most) ∧
 ∀ (y : Unit),
 True →
 ifB (!decide ((parse6 x_2).snd = (0 : Int)))
 (ifB
 (!(decide ((parse6 x_2).fst.fst = (0 : Int)) &&
 (decide ((parse6 x_2).fst.snd.fst = (0 : Int)) &&
 (decide ((parse6 x_2).fst.snd.snd.fst = (0 : Int)) &&
 (decide ((parse6 x_2).fst.snd.snd.snd.fst = (0 : Int)) &&
 (decide ((parse6 x_2).fst.snd.snd.snd.snd.fst = (0 : Int)) &&
 (decide ((parse6 x_2).fst.snd.snd.snd.snd.snd.fst = (0 : Int)) &&
 (decide ((parse6 x_2).fst.snd.snd.snd.snd.snd.snd.fst = (0 : Int)) &&
 (decide ((parse6 x_2).fst.snd.snd.snd.snd.snd.snd.snd.fst = false) &&
 (decide
 ((parse6 x_2).fst.snd.snd.snd.snd.snd.snd.snd.snd.fst =
 (0 : Int)) &&
 (decide
 ((parse6 x_2).fst.snd.snd.snd.snd.snd.snd.snd.snd.snd.fst =
 (0 : Int)) &&
 decide
 ((parse6 x_2).fst.snd.snd.snd.snd.snd.snd.snd.snd.snd.snd =
 false))))))))))))
 (∃ (y : Unit), True ∧ false = true ∧ True)
 (ifB (!decide ((parse6 x_2).snd = (1 : Int)))
 (ifB (!decide ((parse6 x_2).snd = (2 : Int)))
 (ifB (!decide ((parse6 x_2).snd = (4 : Int)))
 (ifB (!decide ((parse6 x_2).snd = (6 : Int)))
 (∃ (y : Unit), True ∧ false = true ∧ True)
 (ifB
 (!decide
 (decide ((parse6 x_2).snd = (1 : Int)) =
 decide ((↑x.fst.length : Int) < (40 : Int))))
 (∃ (y : Unit), True ∧ false = true ∧ True)
 (ifB (decide ((↑x.fst.length : Int) < (40 : Int)))
 (∃ (y : Unit), True ∧ true = true ∧ True)
 (ifB (decide (bits BinOp.and IntKind.u8 x.snd (15 : Int) = (6 : Int)))
 (∃ (y : Unit), True ∧ true = true ∧ True)
 ((((0 : Nat) + x.fst.length) * (1 : Nat) ≤ (140737488355328 : Nat) ∧
 (0 : Nat) + x.fst.length ≤ (140737488355328 : Nat)) ∧
 ((0 : Int) ≤ (0 : Int) ∧
 (0 : Int) < (↑((0 : Nat) + x.fst.length) : Int)) ∧
 (0 : Int) ≤ (4 : Int) ∧
 ((0 : Int) ≤ (0 : Int) ∧
 (0 : Int) < (↑((0 : Nat) + x.fst.length) : Int)) ∧
 ∃ (x_3 : List Int),
 (0 : Nat) + x.fst.length = x_3.length ∧
 ([] ++ x.fst).set (0 : Nat)
 (bits BinOp.or IntKind.u8
 (bits BinOp.and IntKind.u8
 (([] ++ x.fst).getD (0 : Nat) (0 : Int)) (15 : Int))
 (x.snd * (16 : Int) % (256 : Int))) =
 x_3 ∧
 ((∀ (x : Int),
 List.Mem x x_3 → (0 : Int) ≤ x ∧ x ≤ (255 : Int)) ∧
 x_3.length ≤ most) ∧
 ∀ (y : Unit),
 True →
 ∃ (x_4 : List Int),
 (0 : Nat) + x.fst.length = x_4.length ∧
 ([] ++ x.fst).set (0 : Nat)
 (bits BinOp.or IntKind.u8
 (bits BinOp.and IntKind.u8
 (([] ++ x.fst).getD (0 : Nat) (0 : Int))
 (15 : Int))
 (x.snd * (16 : Int) % (256 : Int))) =
 x_4 ∧
 ((∀ (x : Int),
 List.Mem x x_4 →
 (0 : Int) ≤ x ∧ x ≤ (255 : Int)) ∧
 x_4.length ≤ most) ∧
 ∀ (y : Unit),
 True →
 ifB (decide ((parse6 x_3).snd = (2 : Int)))
 (∃ (y : Unit),
 True ∧ (!(hop6 x_4).snd) = true ∧ True)
 (∃ (y : Unit),
 True ∧ false = true ∧ True))))))
 (ifB
 (!decide
 (decide ((parse6 x_2).snd = (1 : Int)) =
 decide ((↑x.fst.length : Int) < (40 : Int))))
 (∃ (y : Unit), True ∧ false = true ∧ True)
 (ifB (decide ((↑x.fst.length : Int) < (40 : Int)))
 (∃ (y : Unit), True ∧ true = true ∧ True)
 (ifB (decide (bits BinOp.and IntKind.u8 x.snd (15 : Int) = (6 : Int)))
 (∃ (y : Unit), True ∧ true = true ∧ True)
 ((((0 : Nat) + x.fst.length) * (1 : Nat) ≤ (140737488355328 : Nat) ∧
 (0 : Nat) + x.fst.length ≤ (140737488355328 : Nat)) ∧
 ((0 : Int) ≤ (0 : Int) ∧ (0 : Int) < (↑((0 : Nat) + x.fst.length) : Int)) ∧
 (0 : Int) ≤ (4 : Int) ∧
 ((0 : Int) ≤ (0 : Int) ∧
 (0 : Int) < (↑((0 : Nat) + x.fst.length) : Int)) ∧
 ∃ (x_3 : List Int),
 (0 : Nat) + x.fst.length = x_3.length ∧
 ([] ++ x.fst).set (0 : Nat)
 (bits BinOp.or IntKind.u8
 (bits BinOp.and IntKind.u8
 (([] ++ x.fst).getD (0 : Nat) (0 : Int)) (15 : Int))
 (x.snd * (16 : Int) % (256 : Int))) =
 x_3 ∧
 ((∀ (x : Int),
 List.Mem x x_3 → (0 : Int) ≤ x ∧ x ≤ (255 : Int)) ∧
 x_3.length ≤ most) ∧
 ∀ (y : Unit),
 True →
 ∃ (x_4 : List Int),
 (0 : Nat) + x.fst.length = x_4.length ∧
 ([] ++ x.fst).set (0 : Nat)
 (bits BinOp.or IntKind.u8
 (bits BinOp.and IntKind.u8
 (([] ++ x.fst).getD (0 : Nat) (0 : Int))
 (15 : Int))
 (x.snd * (16 : Int) % (256 : Int))) =
 x_4 ∧
 ((∀ (x : Int),
 List.Mem x x_4 →
 (0 : Int) ≤ x ∧ x ≤ (255 : Int)) ∧
 x_4.length ≤ most) ∧
 ∀ (y : Unit),
 True →
 ifB (decide ((parse6 x_3).snd = (2 : Int)))
 (∃ (y : Unit),
 True ∧ (!(hop6 x_4).snd) = true ∧ True)
 (∃ (y : Unit),
 True ∧ false = true ∧ True))))))
 (ifB
 (!decide
 (decide ((parse6 x_2).snd = (1 : Int)) =
 decide ((↑x.fst.length : Int) < (40 : Int))))
 (∃ (y : Unit), True ∧ false = true ∧ True)
 (ifB (decide ((↑x.fst.length : Int) < (40 : Int)))
 (∃ (y : Unit), True ∧ true = true ∧ True)
 (ifB (decide (bits BinOp.and IntKind.u8 x.snd (15 : Int) = (6 : Int)))
 (∃ (y : Unit), True ∧ true = true ∧ True)
 ((((0 : Nat) + x.fst.length) * (1 : Nat) ≤ (140737488355328 : Nat) ∧
 (0 : Nat) + x.fst.length ≤ (140737488355328 : Nat)) ∧
 ((0 : Int) ≤ (0 : Int) ∧ (0 : Int) < (↑((0 : Nat) + x.fst.length) : Int)) ∧
 (0 : Int) ≤ (4 : Int) ∧
 ((0 : Int) ≤ (0 : Int) ∧
 (0 : Int) < (↑((0 : Nat) + x.fst.length) : Int)) ∧
 ∃ (x_3 : List Int),
 (0 : Nat) + x.fst.length = x_3.length ∧
 ([] ++ x.fst).set (0 : Nat)
 (bits BinOp.or IntKind.u8
 (bits BinOp.and IntKind.u8
 (([] ++ x.fst).getD (0 : Nat) (0 : Int)) (15 : Int))
 (x.snd * (16 : Int) % (256 : Int))) =
 x_3 ∧
 ((∀ (x : Int), List.Mem x x_3 → (0 : Int) ≤ x ∧ x ≤ (255 : Int)) ∧
 x_3.length ≤ most) ∧
 ∀ (y : Unit),
 True →
 ∃ (x_4 : List Int),
 (0 : Nat) + x.fst.length = x_4.length ∧
 ([] ++ x.fst).set (0 : Nat)
 (bits BinOp.or IntKind.u8
 (bits BinOp.and IntKind.u8
 (([] ++ x.fst).getD (0 : Nat) (0 : Int))
 (15 : Int))
 (x.snd * (16 : Int) % (256 : Int))) =
 x_4 ∧
 ((∀ (x : Int),
 List.Mem x x_4 →
 (0 : Int) ≤ x ∧ x ≤ (255 : Int)) ∧
 x_4.length ≤ most) ∧
 ∀ (y : Unit),
 True →
 ifB (decide ((parse6 x_3).snd = (2 : Int)))
 (∃ (y : Unit),
 True ∧ (!(hop6 x_4).snd) = true ∧ True)
 (∃ (y : Unit),
 True ∧ false = true ∧ True))))))
 (ifB
 (!decide
 (decide ((parse6 x_2).snd = (1 : Int)) =
 decide ((↑x.fst.length : Int) < (40 : Int))))
 (∃ (y : Unit), True ∧ false = true ∧ True)
 (ifB (decide ((↑x.fst.length : Int) < (40 : Int)))
 (∃ (y : Unit), True ∧ true = true ∧ True)
 (ifB (decide (bits BinOp.and IntKind.u8 x.snd (15 : Int) = (6 : Int)))
 (∃ (y : Unit), True ∧ true = true ∧ True)
 ((((0 : Nat) + x.fst.length) * (1 : Nat) ≤ (140737488355328 : Nat) ∧
 (0 : Nat) + x.fst.length ≤ (140737488355328 : Nat)) ∧
 ((0 : Int) ≤ (0 : Int) ∧ (0 : Int) < (↑((0 : Nat) + x.fst.length) : Int)) ∧
 (0 : Int) ≤ (4 : Int) ∧
 ((0 : Int) ≤ (0 : Int) ∧ (0 : Int) < (↑((0 : Nat) + x.fst.length) : Int)) ∧
 ∃ (x_3 : List Int),
 (0 : Nat) + x.fst.length = x_3.length ∧
 ([] ++ x.fst).set (0 : Nat)
 (bits BinOp.or IntKind.u8
 (bits BinOp.and IntKind.u8
 (([] ++ x.fst).getD (0 : Nat) (0 : Int)) (15 : Int))
 (x.snd * (16 : Int) % (256 : Int))) =
 x_3 ∧
 ((∀ (x : Int), List.Mem x x_3 → (0 : Int) ≤ x ∧ x ≤ (255 : Int)) ∧
 x_3.length ≤ most) ∧
 ∀ (y : Unit),
 True →
 ∃ (x_4 : List Int),
 (0 : Nat) + x.fst.length = x_4.length ∧
 ([] ++ x.fst).set (0 : Nat)
 (bits BinOp.or IntKind.u8
 (bits BinOp.and IntKind.u8
 (([] ++ x.fst).getD (0 : Nat) (0 : Int))
 (15 : Int))
 (x.snd * (16 : Int) % (256 : Int))) =
 x_4 ∧
 ((∀ (x : Int),
 List.Mem x x_4 →
 (0 : Int) ≤ x ∧ x ≤ (255 : Int)) ∧
 x_4.length ≤ most) ∧
 ∀ (y : Unit),
 True →
 ifB (decide ((parse6 x_3).snd = (2 : Int)))
 (∃ (y : Unit),
 True ∧ (!(hop6 x_4).snd) = true ∧ True)
 (∃ (y : Unit),
 True ∧ false = true ∧ True)))))))
 (ifB
 (!decide
 (decide ((parse6 x_2).snd = (1 : Int)) = decide ((↑x.fst.length : Int) < (40 : Int))))
 (∃ (y : Unit), True ∧ false = true ∧ True)
 (ifB (decide ((↑x.fst.length : Int) < (40 : Int)))
 (∃ (y : Unit), True ∧ true = true ∧ True)
 (ifB (decide (bits BinOp.and IntKind.u8 x.snd (15 : Int) = (6 : Int)))
 (∃ (y : Unit), True ∧ true = true ∧ True)
 ((((0 : Nat) + x.fst.length) * (1 : Nat) ≤ (140737488355328 : Nat) ∧
 (0 : Nat) + x.fst.length ≤ (140737488355328 : Nat)) ∧
 ((0 : Int) ≤ (0 : Int) ∧ (0 : Int) < (↑((0 : Nat) + x.fst.length) : Int)) ∧
 (0 : Int) ≤ (4 : Int) ∧
 ((0 : Int) ≤ (0 : Int) ∧ (0 : Int) < (↑((0 : Nat) + x.fst.length) : Int)) ∧
 ∃ (x_3 : List Int),
 (0 : Nat) + x.fst.length = x_3.length ∧
 ([] ++ x.fst).set (0 : Nat)
 (bits BinOp.or IntKind.u8
 (bits BinOp.and IntKind.u8
 (([] ++ x.fst).getD (0 : Nat) (0 : Int)) (15 : Int))
 (x.snd * (16 : Int) % (256 : Int))) =
 x_3 ∧
 ((∀ (x : Int), List.Mem x x_3 → (0 : Int) ≤ x ∧ x ≤ (255 : Int)) ∧
 x_3.length ≤ most) ∧
 ∀ (y : Unit),
 True →
 ∃ (x_4 : List Int),
 (0 : Nat) + x.fst.length = x_4.length ∧
 ([] ++ x.fst).set (0 : Nat)
 (bits BinOp.or IntKind.u8
 (bits BinOp.and IntKind.u8
 (([] ++ x.fst).getD (0 : Nat) (0 : Int)) (15 : Int))
 (x.snd * (16 : Int) % (256 : Int))) =
 x_4 ∧
 ((∀ (x : Int),
 List.Mem x x_4 → (0 : Int) ≤ x ∧ x ≤ (255 : Int)) ∧
 x_4.length ≤ most) ∧
 ∀ (y : Unit),
 True →
 ifB (decide ((parse6 x_3).snd = (2 : Int)))
 (∃ (y : Unit),
 True ∧ (!(hop6 x_4).snd) = true ∧ True)
 (∃ (y : Unit), True ∧ false = true ∧ True))))))
theorem o_wrong6 : owes Try.prog (tab L21) LqL21 1 26 Try.f26 Wrong6L = T_wrong6 := by kernel_rfl
end Sp
