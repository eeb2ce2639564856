/- Printed by sx.py, a program of this work: what the walks of some functions owe. -/
import Derived.Test.YtcilcmbailoeaaaSpL21
import Derived.ProofKit
set_option linter.all false
set_option maxRecDepth 100000
namespace Sp
open Go Go.Proofs Sx
def T_back6 : Prop :=
 ∀ (x : H6 × List Int),
 (((((0 : Int) ≤ (src6 x.fst).fst ∧ (src6 x.fst).fst < (18446744073709551616 : Int)) ∧
 (0 : Int) ≤ (src6 x.fst).snd.fst ∧ (src6 x.fst).snd.fst < (18446744073709551616 : Int)) ∧
 ((0 : Int) ≤ (dst6 x.fst).fst ∧ (dst6 x.fst).fst < (18446744073709551616 : Int)) ∧
 (0 : Int) ≤ (dst6 x.fst).snd.fst ∧ (dst6 x.fst).snd.fst < (18446744073709551616 : Int)) ∧
 ∀ (x_1 : Int), List.Mem x_1 x.snd → (0 : Int) ≤ x_1 ∧ x_1 ≤ (255 : Int)) →
 ∃ (x_1 : Unit),
 True ∧
 ∀ (y : Unit),
 True →
 ifB (decide ((1500 : Int) < (↑x.snd.length : Int))) (∃ (y : Unit), True ∧ true = true ∧ True)
 (ifB (!x.fst.snd.snd.snd.snd.snd.snd.snd.fst) (∃ (y : Unit), True ∧ true = true ∧ True)
 (ifB (!x.fst.snd.snd.snd.snd.snd.snd.snd.snd.snd.snd) (∃ (y : Unit), True ∧ true = true ∧ True)
 (∃ (x_2 : H6 × List Int),
 x.fst.fst = x_2.fst.fst ∧
 x.fst.snd.fst = x_2.fst.snd.fst ∧
 x.fst.snd.snd.fst = x_2.fst.snd.snd.fst ∧
 x.fst.snd.snd.snd.fst = x_2.fst.snd.snd.snd.fst ∧
 x.fst.snd.snd.snd.snd.fst = x_2.fst.snd.snd.snd.snd.fst ∧
 x.fst.snd.snd.snd.snd.snd.fst = x_2.fst.snd.snd.snd.snd.snd.fst ∧
 x.fst.snd.snd.snd.snd.snd.snd.fst = x_2.fst.snd.snd.snd.snd.snd.snd.fst ∧
 x.fst.snd.snd.snd.snd.snd.snd.snd.fst = x_2.fst.snd.snd.snd.snd.snd.snd.snd.fst ∧
 x.fst.snd.snd.snd.snd.snd.snd.snd.snd.fst =
 x_2.fst.snd.snd.snd.snd.snd.snd.snd.snd.fst ∧
 x.fst.snd.snd.snd.snd.snd.snd.snd.snd.snd.fst =
 x_2.fst.snd.snd.snd.snd.snd.snd.snd.snd.snd.fst ∧
 x.fst.snd.snd.snd.snd.snd.snd.snd.snd.snd.snd =
 x_2.fst.snd.snd.snd.snd.snd.snd.snd.snd.snd.snd ∧
 x.snd.length = x_2.snd.length ∧
 x.snd = x_2.snd ∧
 (((((0 : Int) ≤ (src6 x_2.fst).fst ∧
 (src6 x_2.fst).fst < (18446744073709551616 : Int)) ∧
 (0 : Int) ≤ (src6 x_2.fst).snd.fst ∧
 (src6 x_2.fst).snd.fst < (18446744073709551616 : Int)) ∧
 ((0 : Int) ≤ (dst6 x_2.fst).fst ∧
 (dst6 x_2.fst).fst < (18446744073709551616 : Int)) ∧
 (0 : Int) ≤ (dst6 x_2.fst).snd.fst ∧
 (dst6 x_2.fst).snd.fst < (18446744073709551616 : Int)) ∧
 ∀ (x : Int), List.Mem x x_2.snd → (0 : Int) ≤ x ∧ x ≤ (255 : Int)) ∧
 ∀ (y : Unit),
 True →
 ∃ (x_3 : List Int),
 (build6 x_2.fst x_2.snd).length = x_3.length ∧
 build6 x_2.fst x_2.snd = x_3 ∧
 ((∀ (x : Int),
 List.Mem x x_3 → (0 : Int) ≤ x ∧ x ≤ (255 : Int)) ∧
 x_3.length ≤ most) ∧
 ∀ (y : Unit),
 True →
 ((-9223372036854775808 : Int) ≤
 (40 : Int) + (↑x.snd.length : Int) ∧
 (40 : Int) + (↑x.snd.length : Int) ≤
 (9223372036854775807 : Int)) ∧
 ifB
 (!decide
 ((↑(build6 x_2.fst x_2.snd).length : Int) =
 (40 : Int) + (↑x.snd.length : Int)))
 (∃ (y : Unit), True ∧ false = true ∧ True)
 (((0 : Int) ≤ (40 : Int) ∧
 (40 : Int) ≤
 (↑(build6 x_2.fst x_2.snd).length : Int)) ∧
 ifB
 (!decide
 (List.drop (40 : Nat)
 (List.take
 (build6 x_2.fst x_2.snd).length
 (build6 x_2.fst x_2.snd)) =
 x.snd))
 (∃ (y : Unit), True ∧ false = true ∧ True)
 (∃ (x_4 : Ad × Int),
 x.fst.snd.snd.snd.snd.snd.fst = x_4.fst.fst ∧
 x.fst.snd.snd.snd.snd.snd.snd.fst =
 x_4.fst.snd.fst ∧
 x.fst.snd.snd.snd.snd.snd.snd.snd.fst =
 x_4.fst.snd.snd ∧
 (8 : Int) = x_4.snd ∧
 (((0 : Int) ≤ x_4.fst.fst ∧
 x_4.fst.fst <
 (18446744073709551616 :
 Int)) ∧
 (0 : Int) ≤ x_4.fst.snd.fst ∧
 x_4.fst.snd.fst <
 (18446744073709551616 :
 Int)) ∧
 ∀ (y : Unit),
 True →
 ifB
 (decide
 ((maskA x_4.fst
 x_4.snd).fst =
 (18374686479671623680 :
 Int)))
 (∃ (y : Unit),
 True ∧
 decide
 ((parse6 x_3).snd =
 (6 : Int)) =
 true ∧
 True)
 (ifB
 (decide
 (x.fst.snd.snd.snd.snd.snd.fst =
 (0 : Int)) &&
 (decide
 (x.fst.snd.snd.snd.snd.snd.snd.fst =
 (1 : Int)) &&
 decide
 (x.fst.snd.snd.snd.snd.snd.snd.snd.fst =
 true)))
 (∃ (y : Unit),
 True ∧
 decide
 ((parse6
 x_3).snd =
 (6 : Int)) =
 true ∧
 True)
 (ifB
 (decide
 (x.fst.snd.snd.snd.snd.snd.snd.snd.snd.fst =
 (0 : Int)) &&
 (decide
 (x.fst.snd.snd.snd.snd.snd.snd.snd.snd.snd.fst =
 (0 : Int)) &&
 decide
 (x.fst.snd.snd.snd.snd.snd.snd.snd.snd.snd.snd =
 true)))
 (∃ (y : Unit),
 True ∧
 decide
 ((parse6
 x_3).snd =
 (6 : Int)) =
 true ∧
 True)
 (ifB
 (decide
 ((parse6 x_3).snd =
 (0 : Int)))
 (ifB
 (decide
 ((parse6
 x_3).fst.fst =
 bits BinOp.and
 IntKind.i64
 x.fst.fst
 (255 : Int)))
 (ifB
 (decide
 ((parse6
 x_3).fst.snd.fst =
 bits BinOp.and
 IntKind.i64
 x.fst.snd.fst
 (1048575 :
 Int)))
 (ifB
 (decide
 ((parse6
 x_3).fst.snd.snd.fst =
 (↑x.snd.length :
 Int)))
 (ifB
 (decide
 ((parse6
 x_3).fst.snd.snd.snd.fst =
 bits
 BinOp.and
 IntKind.i64
 x.fst.snd.snd.snd.fst
 (255 :
 Int)))
 (ifB
 (decide
 ((parse6
 x_3).fst.snd.snd.snd.snd.fst =
 bits
 BinOp.and
 IntKind.i64
 x.fst.snd.snd.snd.snd.fst
 (255 :
 Int)))
 (ifB
 (decide
 ((parse6
 x_3).fst.snd.snd.snd.snd.snd.fst =
 x.fst.snd.snd.snd.snd.snd.fst) &&
 (decide
 ((parse6
 x_3).fst.snd.snd.snd.snd.snd.snd.fst =
 x.fst.snd.snd.snd.snd.snd.snd.fst) &&
 decide
 ((parse6
 x_3).fst.snd.snd.snd.snd.snd.snd.snd.fst =
 x.fst.snd.snd.snd.snd.snd.snd.snd.fst)))
 (∃ (y :
 Unit),
 True ∧
 (decide
 ((parse6
 x_3).fst.snd.snd.snd.snd.snd.snd.snd.snd.fst =
 x.fst.snd.snd.snd.snd.snd.snd.snd.snd.fst) &&
 (decide
 ((parse6
 x_3).fst.snd.snd.snd.snd.snd.snd.snd.snd.snd.fst =
 x.fst.snd.snd.snd.snd.snd.snd.snd.snd.snd.fst) &&
 decide
 ((parse6
 x_3).fst.snd.snd.snd.snd.snd.snd.snd.snd.snd.snd =
 x.fst.snd.snd.snd.snd.snd.snd.snd.snd.snd.snd))) =
 true ∧
 True)
 (∃ (y :
 Unit),
 True ∧
 false =
 true ∧
 True))
 (∃ (y :
 Unit),
 True ∧
 false =
 true ∧
 True))
 (∃ (y : Unit),
 True ∧
 false =
 true ∧
 True))
 (∃ (y : Unit),
 True ∧
 false = true ∧
 True))
 (∃ (y : Unit),
 True ∧
 false = true ∧
 True))
 (∃ (y : Unit),
 True ∧
 false = true ∧
 True))
 (∃ (y : Unit),
 True ∧
 false = true ∧
 True)))))))))
theorem o_back6 : owes Try.prog (tab L21) LqL21 1 23 Try.f23 Back6L = T_back6 := by kernel_rfl
end Sp
