/- Printed by sx.py, a program of this work: what the walks of some functions owe. -/
import Derived.Test.YtcilcmbailoeaaaSpL21r
import Derived.ProofKit
set_option linter.all false
set_option maxRecDepth 100000
namespace Sp
open Go Go.Proofs Sx
def T_rparse6 : Prop :=
 ∀ (x : List Int),
 (∀ (x_1 : Int), List.Mem x_1 x → (0 : Int) ≤ x_1 ∧ x_1 ≤ (255 : Int)) ∧ x.length ≤ most →
 ifB (decide ((↑x.length : Int) < (40 : Int)))
 (∃ (y : Unit),
 True ∧
 (0 : Int) = (parse6 x).fst.fst ∧
 (0 : Int) = (parse6 x).fst.snd.fst ∧
 (0 : Int) = (parse6 x).fst.snd.snd.fst ∧
 (0 : Int) = (parse6 x).fst.snd.snd.snd.fst ∧
 (0 : Int) = (parse6 x).fst.snd.snd.snd.snd.fst ∧
 (0 : Int) = (parse6 x).fst.snd.snd.snd.snd.snd.fst ∧
 (0 : Int) = (parse6 x).fst.snd.snd.snd.snd.snd.snd.fst ∧
 false = (parse6 x).fst.snd.snd.snd.snd.snd.snd.snd.fst ∧
 (0 : Int) = (parse6 x).fst.snd.snd.snd.snd.snd.snd.snd.snd.fst ∧
 (0 : Int) = (parse6 x).fst.snd.snd.snd.snd.snd.snd.snd.snd.snd.fst ∧
 false = (parse6 x).fst.snd.snd.snd.snd.snd.snd.snd.snd.snd.snd ∧
 (1 : Int) = (parse6 x).snd ∧ True)
 (((0 : Int) ≤ (0 : Int) ∧ (0 : Int) < (↑x.length : Int)) ∧
 ((0 : Int) ≤ x.getD (0 : Nat) (0 : Int) ∧ (0 : Int) < (16 : Int)) ∧
 ifB (!decide (x.getD (0 : Nat) (0 : Int) / (16 : Int) = (6 : Int)))
 (∃ (y : Unit),
 True ∧
 (0 : Int) = (parse6 x).fst.fst ∧
 (0 : Int) = (parse6 x).fst.snd.fst ∧
 (0 : Int) = (parse6 x).fst.snd.snd.fst ∧
 (0 : Int) = (parse6 x).fst.snd.snd.snd.fst ∧
 (0 : Int) = (parse6 x).fst.snd.snd.snd.snd.fst ∧
 (0 : Int) = (parse6 x).fst.snd.snd.snd.snd.snd.fst ∧
 (0 : Int) = (parse6 x).fst.snd.snd.snd.snd.snd.snd.fst ∧
 false = (parse6 x).fst.snd.snd.snd.snd.snd.snd.snd.fst ∧
 (0 : Int) = (parse6 x).fst.snd.snd.snd.snd.snd.snd.snd.snd.fst ∧
 (0 : Int) = (parse6 x).fst.snd.snd.snd.snd.snd.snd.snd.snd.snd.fst ∧
 false = (parse6 x).fst.snd.snd.snd.snd.snd.snd.snd.snd.snd.snd ∧
 (2 : Int) = (parse6 x).snd ∧ True)
 (((0 : Int) ≤ (4 : Int) ∧ (4 : Int) < (↑x.length : Int)) ∧
 ((-9223372036854775808 : Int) ≤ x.getD (4 : Nat) (0 : Int) * (256 : Int) ∧
 x.getD (4 : Nat) (0 : Int) * (256 : Int) ≤ (9223372036854775807 : Int)) ∧
 ((0 : Int) ≤ (5 : Int) ∧ (5 : Int) < (↑x.length : Int)) ∧
 ((-9223372036854775808 : Int) ≤
 x.getD (4 : Nat) (0 : Int) * (256 : Int) + x.getD (5 : Nat) (0 : Int) ∧
 x.getD (4 : Nat) (0 : Int) * (256 : Int) + x.getD (5 : Nat) (0 : Int) ≤
 (9223372036854775807 : Int)) ∧
 ((-9223372036854775808 : Int) ≤
 (40 : Int) + (x.getD (4 : Nat) (0 : Int) * (256 : Int) + x.getD (5 : Nat) (0 : Int)) ∧
 (40 : Int) + (x.getD (4 : Nat) (0 : Int) * (256 : Int) + x.getD (5 : Nat) (0 : Int)) ≤
 (9223372036854775807 : Int)) ∧
 ifB
 (decide
 ((↑x.length : Int) <
 (40 : Int) + (x.getD (4 : Nat) (0 : Int) * (256 : Int) + x.getD (5 : Nat) (0 : Int))))
 (∃ (y : Unit),
 True ∧
 (0 : Int) = (parse6 x).fst.fst ∧
 (0 : Int) = (parse6 x).fst.snd.fst ∧
 (0 : Int) = (parse6 x).fst.snd.snd.fst ∧
 (0 : Int) = (parse6 x).fst.snd.snd.snd.fst ∧
 (0 : Int) = (parse6 x).fst.snd.snd.snd.snd.fst ∧
 (0 : Int) = (parse6 x).fst.snd.snd.snd.snd.snd.fst ∧
 (0 : Int) = (parse6 x).fst.snd.snd.snd.snd.snd.snd.fst ∧
 false = (parse6 x).fst.snd.snd.snd.snd.snd.snd.snd.fst ∧
 (0 : Int) = (parse6 x).fst.snd.snd.snd.snd.snd.snd.snd.snd.fst ∧
 (0 : Int) = (parse6 x).fst.snd.snd.snd.snd.snd.snd.snd.snd.snd.fst ∧
 false = (parse6 x).fst.snd.snd.snd.snd.snd.snd.snd.snd.snd.snd ∧
 (4 : Int) = (parse6 x).snd ∧ True)
 (((0 : Int) ≤ (8 : Int) ∧ (8 : Int) ≤ (24 : Int) ∧ (24 : Int) ≤ (↑x.length : Int)) ∧
 ∃ (x_1 : List Int),
 (16 : Nat) = x_1.length ∧
 List.drop (8 : Nat) (List.take (24 : Nat) x) = x_1 ∧
 (∀ (x : Int), List.Mem x x_1 → (0 : Int) ≤ x ∧ x ≤ (255 : Int)) ∧
 ∀ (y : Unit),
 True →
 ((0 : Int) ≤ (24 : Int) ∧
 (24 : Int) ≤ (40 : Int) ∧ (40 : Int) ≤ (↑x.length : Int)) ∧
 ∃ (x_2 : List Int),
 (16 : Nat) = x_2.length ∧
 List.drop (24 : Nat) (List.take (40 : Nat) x) = x_2 ∧
 (∀ (x : Int), List.Mem x x_2 → (0 : Int) ≤ x ∧ x ≤ (255 : Int)) ∧
 ∀ (y : Unit),
 True →
 ((0 : Int) ≤ (8 : Int) ∧ (8 : Int) < (↑x.length : Int)) ∧
 ifB (decide (x.getD (8 : Nat) (0 : Int) = (255 : Int)))
 (∃ (y : Unit),
 True ∧
 (0 : Int) = (parse6 x).fst.fst ∧
 (0 : Int) = (parse6 x).fst.snd.fst ∧
 (0 : Int) = (parse6 x).fst.snd.snd.fst ∧
 (0 : Int) = (parse6 x).fst.snd.snd.snd.fst ∧
 (0 : Int) = (parse6 x).fst.snd.snd.snd.snd.fst ∧
 (0 : Int) =
 (parse6 x).fst.snd.snd.snd.snd.snd.fst ∧
 (0 : Int) =
 (parse6 x).fst.snd.snd.snd.snd.snd.snd.fst ∧
 false =
 (parse6
 x).fst.snd.snd.snd.snd.snd.snd.snd.fst ∧
 (0 : Int) =
 (parse6
 x).fst.snd.snd.snd.snd.snd.snd.snd.snd.fst ∧
 (0 : Int) =
 (parse6
 x).fst.snd.snd.snd.snd.snd.snd.snd.snd.snd.fst ∧
 false =
 (parse6
 x).fst.snd.snd.snd.snd.snd.snd.snd.snd.snd.snd ∧
 (6 : Int) = (parse6 x).snd ∧ True)
 (ifB (decide ((fromE x_1).fst.fst = (0 : Int)))
 (ifB (decide ((fromE x_1).fst.snd.fst = (1 : Int)))
 (∃ (y : Unit),
 True ∧
 (0 : Int) = (parse6 x).fst.fst ∧
 (0 : Int) = (parse6 x).fst.snd.fst ∧
 (0 : Int) = (parse6 x).fst.snd.snd.fst ∧
 (0 : Int) = (parse6 x).fst.snd.snd.snd.fst ∧
 (0 : Int) = (parse6 x).fst.snd.snd.snd.snd.fst ∧
 (0 : Int) =
 (parse6 x).fst.snd.snd.snd.snd.snd.fst ∧
 (0 : Int) =
 (parse6
 x).fst.snd.snd.snd.snd.snd.snd.fst ∧
 false =
 (parse6
 x).fst.snd.snd.snd.snd.snd.snd.snd.fst ∧
 (0 : Int) =
 (parse6
 x).fst.snd.snd.snd.snd.snd.snd.snd.snd.fst ∧
 (0 : Int) =
 (parse6
 x).fst.snd.snd.snd.snd.snd.snd.snd.snd.snd.fst ∧
 false =
 (parse6
 x).fst.snd.snd.snd.snd.snd.snd.snd.snd.snd.snd ∧
 (6 : Int) = (parse6 x).snd ∧ True)
 (ifB (decide ((fromE x_2).fst.fst = (0 : Int)))
 (ifB (decide ((fromE x_2).fst.snd.fst = (0 : Int)))
 (∃ (y : Unit),
 True ∧
 (0 : Int) = (parse6 x).fst.fst ∧
 (0 : Int) = (parse6 x).fst.snd.fst ∧
 (0 : Int) = (parse6 x).fst.snd.snd.fst ∧
 (0 : Int) = (parse6 x).fst.snd.snd.snd.fst ∧
 (0 : Int) =
 (parse6 x).fst.snd.snd.snd.snd.fst ∧
 (0 : Int) =
 (parse6
 x).fst.snd.snd.snd.snd.snd.fst ∧
 (0 : Int) =
 (parse6
 x).fst.snd.snd.snd.snd.snd.snd.fst ∧
 false =
 (parse6
 x).fst.snd.snd.snd.snd.snd.snd.snd.fst ∧
 (0 : Int) =
 (parse6
 x).fst.snd.snd.snd.snd.snd.snd.snd.snd.fst ∧
 (0 : Int) =
 (parse6
 x).fst.snd.snd.snd.snd.snd.snd.snd.snd.snd.fst ∧
 false =
 (parse6
 x).fst.snd.snd.snd.snd.snd.snd.snd.snd.snd.snd ∧
 (6 : Int) = (parse6 x).snd ∧
 True)
 (((0 : Int) ≤ (0 : Int) ∧
 (0 : Int) < (↑x.length : Int)) ∧
 ((0 : Int) ≤ x.getD (0 : Nat) (0 : Int) ∧
 (0 : Int) < (16 : Int)) ∧
 ((-9223372036854775808 : Int) ≤
 x.getD (0 : Nat) (0 : Int) % (16 : Int) *
 (16 : Int) ∧
 x.getD (0 : Nat) (0 : Int) % (16 : Int) *
 (16 : Int) ≤
 (9223372036854775807 : Int)) ∧
 ((0 : Int) ≤ (1 : Int) ∧
 (1 : Int) < (↑x.length : Int)) ∧
 ((0 : Int) ≤ x.getD (1 : Nat) (0 : Int) ∧
 (0 : Int) < (16 : Int)) ∧
 ((-9223372036854775808 : Int) ≤
 x.getD (0 : Nat) (0 : Int) %
 (16 : Int) *
 (16 : Int) +
 x.getD (1 : Nat) (0 : Int) /
 (16 : Int) ∧
 x.getD (0 : Nat) (0 : Int) % (16 : Int) *
 (16 : Int) +
 x.getD (1 : Nat) (0 : Int) /
 (16 : Int) ≤
 (9223372036854775807 : Int)) ∧
 ((0 : Int) ≤ (1 : Int) ∧
 (1 : Int) < (↑x.length : Int)) ∧
 ((0 : Int) ≤ x.getD (1 : Nat) (0 : Int) ∧
 (0 : Int) < (16 : Int)) ∧
 ((-9223372036854775808 : Int) ≤
 x.getD (1 : Nat) (0 : Int) %
 (16 : Int) *
 (65536 : Int) ∧
 x.getD (1 : Nat) (0 : Int) %
 (16 : Int) *
 (65536 : Int) ≤
 (9223372036854775807 : Int)) ∧
 ((0 : Int) ≤ (2 : Int) ∧
 (2 : Int) < (↑x.length : Int)) ∧
 ((-9223372036854775808 : Int) ≤
 x.getD (2 : Nat) (0 : Int) *
 (256 : Int) ∧
 x.getD (2 : Nat) (0 : Int) *
 (256 : Int) ≤
 (9223372036854775807 : Int)) ∧
 ((-9223372036854775808 : Int) ≤
 x.getD (1 : Nat) (0 : Int) %
 (16 : Int) *
 (65536 : Int) +
 x.getD (2 : Nat)
 (0 : Int) *
 (256 : Int) ∧
 x.getD (1 : Nat) (0 : Int) %
 (16 : Int) *
 (65536 : Int) +
 x.getD (2 : Nat)
 (0 : Int) *
 (256 : Int) ≤
 (9223372036854775807 :
 Int)) ∧
 ((0 : Int) ≤ (3 : Int) ∧
 (3 : Int) <
 (↑x.length : Int)) ∧
 ((-9223372036854775808 :
 Int) ≤
 x.getD (1 : Nat)
 (0 : Int) %
 (16 : Int) *
 (65536 : Int) +
 x.getD (2 : Nat)
 (0 : Int) *
 (256 : Int) +
 x.getD (3 : Nat)
 (0 : Int) ∧
 x.getD (1 : Nat)
 (0 : Int) %
 (16 : Int) *
 (65536 : Int) +
 x.getD (2 : Nat)
 (0 : Int) *
 (256 : Int) +
 x.getD (3 : Nat)
 (0 : Int) ≤
 (9223372036854775807 :
 Int)) ∧
 ((0 : Int) ≤ (6 : Int) ∧
 (6 : Int) <
 (↑x.length : Int)) ∧
 ((0 : Int) ≤ (7 : Int) ∧
 (7 : Int) <
 (↑x.length : Int)) ∧
 ∃ (y : Unit),
 True ∧
 x.getD (0 : Nat)
 (0 :
 Int) %
 (16 :
 Int) *
 (16 : Int) +
 x.getD
 (1 : Nat)
 (0 :
 Int) /
 (16 : Int) =
 (parse6
 x).fst.fst ∧
 x.getD (1 : Nat)
 (0 :
 Int) %
 (16 :
 Int) *
 (65536 :
 Int) +
 x.getD
 (2 :
 Nat)
 (0 :
 Int) *
 (256 :
 Int) +
 x.getD
 (3 : Nat)
 (0 :
 Int) =
 (parse6
 x).fst.snd.fst ∧
 x.getD (4 : Nat)
 (0 :
 Int) *
 (256 :
 Int) +
 x.getD
 (5 :
 Nat)
 (0 :
 Int) =
 (parse6
 x).fst.snd.snd.fst ∧
 x.getD
 (6 :
 Nat)
 (0 :
 Int) =
 (parse6
 x).fst.snd.snd.snd.fst ∧
 x.getD
 (7 :
 Nat)
 (0 :
 Int) =
 (parse6
 x).fst.snd.snd.snd.snd.fst ∧
 (fromE
 x_1).fst.fst =
 (parse6
 x).fst.snd.snd.snd.snd.snd.fst ∧
 (fromE
 x_1).fst.snd.fst =
 (parse6
 x).fst.snd.snd.snd.snd.snd.snd.fst ∧
 (fromE
 x_1).fst.snd.snd =
 (parse6
 x).fst.snd.snd.snd.snd.snd.snd.snd.fst ∧
 (fromE
 x_2).fst.fst =
 (parse6
 x).fst.snd.snd.snd.snd.snd.snd.snd.snd.fst ∧
 (fromE
 x_2).fst.snd.fst =
 (parse6
 x).fst.snd.snd.snd.snd.snd.snd.snd.snd.snd.fst ∧
 (fromE
 x_2).fst.snd.snd =
 (parse6
 x).fst.snd.snd.snd.snd.snd.snd.snd.snd.snd.snd ∧
 (0 :
 Int) =
 (parse6
 x).snd ∧
 True))
 (((0 : Int) ≤ (0 : Int) ∧ (0 : Int) < (↑x.length : Int)) ∧
 ((0 : Int) ≤ x.getD (0 : Nat) (0 : Int) ∧
 (0 : Int) < (16 : Int)) ∧
 ((-9223372036854775808 : Int) ≤
 x.getD (0 : Nat) (0 : Int) % (16 : Int) *
 (16 : Int) ∧
 x.getD (0 : Nat) (0 : Int) % (16 : Int) *
 (16 : Int) ≤
 (9223372036854775807 : Int)) ∧
 ((0 : Int) ≤ (1 : Int) ∧
 (1 : Int) < (↑x.length : Int)) ∧
 ((0 : Int) ≤ x.getD (1 : Nat) (0 : Int) ∧
 (0 : Int) < (16 : Int)) ∧
 ((-9223372036854775808 : Int) ≤
 x.getD (0 : Nat) (0 : Int) % (16 : Int) *
 (16 : Int) +
 x.getD (1 : Nat) (0 : Int) /
 (16 : Int) ∧
 x.getD (0 : Nat) (0 : Int) % (16 : Int) *
 (16 : Int) +
 x.getD (1 : Nat) (0 : Int) /
 (16 : Int) ≤
 (9223372036854775807 : Int)) ∧
 ((0 : Int) ≤ (1 : Int) ∧
 (1 : Int) < (↑x.length : Int)) ∧
 ((0 : Int) ≤ x.getD (1 : Nat) (0 : Int) ∧
 (0 : Int) < (16 : Int)) ∧
 ((-9223372036854775808 : Int) ≤
 x.getD (1 : Nat) (0 : Int) %
 (16 : Int) *
 (65536 : Int) ∧
 x.getD (1 : Nat) (0 : Int) %
 (16 : Int) *
 (65536 : Int) ≤
 (9223372036854775807 : Int)) ∧
 ((0 : Int) ≤ (2 : Int) ∧
 (2 : Int) < (↑x.length : Int)) ∧
 ((-9223372036854775808 : Int) ≤
 x.getD (2 : Nat) (0 : Int) *
 (256 : Int) ∧
 x.getD (2 : Nat) (0 : Int) *
 (256 : Int) ≤
 (9223372036854775807 : Int)) ∧
 ((-9223372036854775808 : Int) ≤
 x.getD (1 : Nat) (0 : Int) %
 (16 : Int) *
 (65536 : Int) +
 x.getD (2 : Nat) (0 : Int) *
 (256 : Int) ∧
 x.getD (1 : Nat) (0 : Int) %
 (16 : Int) *
 (65536 : Int) +
 x.getD (2 : Nat) (0 : Int) *
 (256 : Int) ≤
 (9223372036854775807 : Int)) ∧
 ((0 : Int) ≤ (3 : Int) ∧
 (3 : Int) <
 (↑x.length : Int)) ∧
 ((-9223372036854775808 : Int) ≤
 x.getD (1 : Nat)
 (0 : Int) %
 (16 : Int) *
 (65536 : Int) +
 x.getD (2 : Nat)
 (0 : Int) *
 (256 : Int) +
 x.getD (3 : Nat)
 (0 : Int) ∧
 x.getD (1 : Nat) (0 : Int) %
 (16 : Int) *
 (65536 : Int) +
 x.getD (2 : Nat)
 (0 : Int) *
 (256 : Int) +
 x.getD (3 : Nat)
 (0 : Int) ≤
 (9223372036854775807 :
 Int)) ∧
 ((0 : Int) ≤ (6 : Int) ∧
 (6 : Int) <
 (↑x.length : Int)) ∧
 ((0 : Int) ≤ (7 : Int) ∧
 (7 : Int) <
 (↑x.length : Int)) ∧
 ∃ (y : Unit),
 True ∧
 x.getD (0 : Nat)
 (0 :
 Int) %
 (16 : Int) *
 (16 : Int) +
 x.getD (1 : Nat)
 (0 : Int) /
 (16 : Int) =
 (parse6
 x).fst.fst ∧
 x.getD (1 : Nat)
 (0 :
 Int) %
 (16 :
 Int) *
 (65536 :
 Int) +
 x.getD
 (2 :
 Nat)
 (0 :
 Int) *
 (256 :
 Int) +
 x.getD
 (3 : Nat)
 (0 : Int) =
 (parse6
 x).fst.snd.fst ∧
 x.getD (4 : Nat)
 (0 :
 Int) *
 (256 :
 Int) +
 x.getD
 (5 : Nat)
 (0 :
 Int) =
 (parse6
 x).fst.snd.snd.fst ∧
 x.getD (6 : Nat)
 (0 :
 Int) =
 (parse6
 x).fst.snd.snd.snd.fst ∧
 x.getD
 (7 :
 Nat)
 (0 :
 Int) =
 (parse6
 x).fst.snd.snd.snd.snd.fst ∧
 (fromE
 x_1).fst.fst =
 (parse6
 x).fst.snd.snd.snd.snd.snd.fst ∧
 (fromE
 x_1).fst.snd.fst =
 (parse6
 x).fst.snd.snd.snd.snd.snd.snd.fst ∧
 (fromE
 x_1).fst.snd.snd =
 (parse6
 x).fst.snd.snd.snd.snd.snd.snd.snd.fst ∧
 (fromE
 x_2).fst.fst =
 (parse6
 x).fst.snd.snd.snd.snd.snd.snd.snd.snd.fst ∧
 (fromE
 x_2).fst.snd.fst =
 (parse6
 x).fst.snd.snd.snd.snd.snd.snd.snd.snd.snd.fst ∧
 (fromE
 x_2).fst.snd.snd =
 (parse6
 x).fst.snd.snd.snd.snd.snd.snd.snd.snd.snd.snd ∧
 (0 :
 Int) =
 (parse6
 x).snd ∧
 True)))
 (ifB (decide ((fromE x_2).fst.fst = (0 : Int)))
 (ifB (decide ((fromE x_2).fst.snd.fst = (0 : Int)))
 (∃ (y : Unit),
 True ∧
 (0 : Int) = (parse6 x).fst.fst ∧
 (0 : Int) = (parse6 x).fst.snd.fst ∧
 (0 : Int) = (parse6 x).fst.snd.snd.fst ∧
 (0 : Int) = (parse6 x).fst.snd.snd.snd.fst ∧
 (0 : Int) =
 (parse6 x).fst.snd.snd.snd.snd.fst ∧
 (0 : Int) =
 (parse6 x).fst.snd.snd.snd.snd.snd.fst ∧
 (0 : Int) =
 (parse6
 x).fst.snd.snd.snd.snd.snd.snd.fst ∧
 false =
 (parse6
 x).fst.snd.snd.snd.snd.snd.snd.snd.fst ∧
 (0 : Int) =
 (parse6
 x).fst.snd.snd.snd.snd.snd.snd.snd.snd.fst ∧
 (0 : Int) =
 (parse6
 x).fst.snd.snd.snd.snd.snd.snd.snd.snd.snd.fst ∧
 false =
 (parse6
 x).fst.snd.snd.snd.snd.snd.snd.snd.snd.snd.snd ∧
 (6 : Int) = (parse6 x).snd ∧
 True)
 (((0 : Int) ≤ (0 : Int) ∧ (0 : Int) < (↑x.length : Int)) ∧
 ((0 : Int) ≤ x.getD (0 : Nat) (0 : Int) ∧
 (0 : Int) < (16 : Int)) ∧
 ((-9223372036854775808 : Int) ≤
 x.getD (0 : Nat) (0 : Int) % (16 : Int) *
 (16 : Int) ∧
 x.getD (0 : Nat) (0 : Int) % (16 : Int) *
 (16 : Int) ≤
 (9223372036854775807 : Int)) ∧
 ((0 : Int) ≤ (1 : Int) ∧
 (1 : Int) < (↑x.length : Int)) ∧
 ((0 : Int) ≤ x.getD (1 : Nat) (0 : Int) ∧
 (0 : Int) < (16 : Int)) ∧
 ((-9223372036854775808 : Int) ≤
 x.getD (0 : Nat) (0 : Int) % (16 : Int) *
 (16 : Int) +
 x.getD (1 : Nat) (0 : Int) /
 (16 : Int) ∧
 x.getD (0 : Nat) (0 : Int) % (16 : Int) *
 (16 : Int) +
 x.getD (1 : Nat) (0 : Int) /
 (16 : Int) ≤
 (9223372036854775807 : Int)) ∧
 ((0 : Int) ≤ (1 : Int) ∧
 (1 : Int) < (↑x.length : Int)) ∧
 ((0 : Int) ≤ x.getD (1 : Nat) (0 : Int) ∧
 (0 : Int) < (16 : Int)) ∧
 ((-9223372036854775808 : Int) ≤
 x.getD (1 : Nat) (0 : Int) %
 (16 : Int) *
 (65536 : Int) ∧
 x.getD (1 : Nat) (0 : Int) %
 (16 : Int) *
 (65536 : Int) ≤
 (9223372036854775807 : Int)) ∧
 ((0 : Int) ≤ (2 : Int) ∧
 (2 : Int) < (↑x.length : Int)) ∧
 ((-9223372036854775808 : Int) ≤
 x.getD (2 : Nat) (0 : Int) *
 (256 : Int) ∧
 x.getD (2 : Nat) (0 : Int) *
 (256 : Int) ≤
 (9223372036854775807 : Int)) ∧
 ((-9223372036854775808 : Int) ≤
 x.getD (1 : Nat) (0 : Int) %
 (16 : Int) *
 (65536 : Int) +
 x.getD (2 : Nat) (0 : Int) *
 (256 : Int) ∧
 x.getD (1 : Nat) (0 : Int) %
 (16 : Int) *
 (65536 : Int) +
 x.getD (2 : Nat) (0 : Int) *
 (256 : Int) ≤
 (9223372036854775807 : Int)) ∧
 ((0 : Int) ≤ (3 : Int) ∧
 (3 : Int) <
 (↑x.length : Int)) ∧
 ((-9223372036854775808 : Int) ≤
 x.getD (1 : Nat)
 (0 : Int) %
 (16 : Int) *
 (65536 : Int) +
 x.getD (2 : Nat)
 (0 : Int) *
 (256 : Int) +
 x.getD (3 : Nat)
 (0 : Int) ∧
 x.getD (1 : Nat) (0 : Int) %
 (16 : Int) *
 (65536 : Int) +
 x.getD (2 : Nat)
 (0 : Int) *
 (256 : Int) +
 x.getD (3 : Nat)
 (0 : Int) ≤
 (9223372036854775807 :
 Int)) ∧
 ((0 : Int) ≤ (6 : Int) ∧
 (6 : Int) <
 (↑x.length : Int)) ∧
 ((0 : Int) ≤ (7 : Int) ∧
 (7 : Int) <
 (↑x.length : Int)) ∧
 ∃ (y : Unit),
 True ∧
 x.getD (0 : Nat)
 (0 :
 Int) %
 (16 : Int) *
 (16 : Int) +
 x.getD (1 : Nat)
 (0 : Int) /
 (16 : Int) =
 (parse6
 x).fst.fst ∧
 x.getD (1 : Nat)
 (0 :
 Int) %
 (16 :
 Int) *
 (65536 :
 Int) +
 x.getD
 (2 :
 Nat)
 (0 :
 Int) *
 (256 :
 Int) +
 x.getD
 (3 : Nat)
 (0 : Int) =
 (parse6
 x).fst.snd.fst ∧
 x.getD (4 : Nat)
 (0 :
 Int) *
 (256 :
 Int) +
 x.getD
 (5 : Nat)
 (0 :
 Int) =
 (parse6
 x).fst.snd.snd.fst ∧
 x.getD (6 : Nat)
 (0 :
 Int) =
 (parse6
 x).fst.snd.snd.snd.fst ∧
 x.getD
 (7 :
 Nat)
 (0 :
 Int) =
 (parse6
 x).fst.snd.snd.snd.snd.fst ∧
 (fromE
 x_1).fst.fst =
 (parse6
 x).fst.snd.snd.snd.snd.snd.fst ∧
 (fromE
 x_1).fst.snd.fst =
 (parse6
 x).fst.snd.snd.snd.snd.snd.snd.fst ∧
 (fromE
 x_1).fst.snd.snd =
 (parse6
 x).fst.snd.snd.snd.snd.snd.snd.snd.fst ∧
 (fromE
 x_2).fst.fst =
 (parse6
 x).fst.snd.snd.snd.snd.snd.snd.snd.snd.fst ∧
 (fromE
 x_2).fst.snd.fst =
 (parse6
 x).fst.snd.snd.snd.snd.snd.snd.snd.snd.snd.fst ∧
 (fromE
 x_2).fst.snd.snd =
 (parse6
 x).fst.snd.snd.snd.snd.snd.snd.snd.snd.snd.snd ∧
 (0 :
 Int) =
 (parse6
 x).snd ∧
 True))
 (((0 : Int) ≤ (0 : Int) ∧ (0 : Int) < (↑x.length : Int)) ∧
 ((0 : Int) ≤ x.getD (0 : Nat) (0 : Int) ∧
 (0 : Int) < (16 : Int)) ∧
 ((-9223372036854775808 : Int) ≤
 x.getD (0 : Nat) (0 : Int) % (16 : Int) *
 (16 : Int) ∧
 x.getD (0 : Nat) (0 : Int) % (16 : Int) *
 (16 : Int) ≤
 (9223372036854775807 : Int)) ∧
 ((0 : Int) ≤ (1 : Int) ∧
 (1 : Int) < (↑x.length : Int)) ∧
 ((0 : Int) ≤ x.getD (1 : Nat) (0 : Int) ∧
 (0 : Int) < (16 : Int)) ∧
 ((-9223372036854775808 : Int) ≤
 x.getD (0 : Nat) (0 : Int) % (16 : Int) *
 (16 : Int) +
 x.getD (1 : Nat) (0 : Int) / (16 : Int) ∧
 x.getD (0 : Nat) (0 : Int) % (16 : Int) *
 (16 : Int) +
 x.getD (1 : Nat) (0 : Int) / (16 : Int) ≤
 (9223372036854775807 : Int)) ∧
 ((0 : Int) ≤ (1 : Int) ∧
 (1 : Int) < (↑x.length : Int)) ∧
 ((0 : Int) ≤ x.getD (1 : Nat) (0 : Int) ∧
 (0 : Int) < (16 : Int)) ∧
 ((-9223372036854775808 : Int) ≤
 x.getD (1 : Nat) (0 : Int) %
 (16 : Int) *
 (65536 : Int) ∧
 x.getD (1 : Nat) (0 : Int) %
 (16 : Int) *
 (65536 : Int) ≤
 (9223372036854775807 : Int)) ∧
 ((0 : Int) ≤ (2 : Int) ∧
 (2 : Int) < (↑x.length : Int)) ∧
 ((-9223372036854775808 : Int) ≤
 x.getD (2 : Nat) (0 : Int) *
 (256 : Int) ∧
 x.getD (2 : Nat) (0 : Int) *
 (256 : Int) ≤
 (9223372036854775807 : Int)) ∧
 ((-9223372036854775808 : Int) ≤
 x.getD (1 : Nat) (0 : Int) %
 (16 : Int) *
 (65536 : Int) +
 x.getD (2 : Nat) (0 : Int) *
 (256 : Int) ∧
 x.getD (1 : Nat) (0 : Int) %
 (16 : Int) *
 (65536 : Int) +
 x.getD (2 : Nat) (0 : Int) *
 (256 : Int) ≤
 (9223372036854775807 : Int)) ∧
 ((0 : Int) ≤ (3 : Int) ∧
 (3 : Int) < (↑x.length : Int)) ∧
 ((-9223372036854775808 : Int) ≤
 x.getD (1 : Nat) (0 : Int) %
 (16 : Int) *
 (65536 : Int) +
 x.getD (2 : Nat)
 (0 : Int) *
 (256 : Int) +
 x.getD (3 : Nat)
 (0 : Int) ∧
 x.getD (1 : Nat) (0 : Int) %
 (16 : Int) *
 (65536 : Int) +
 x.getD (2 : Nat)
 (0 : Int) *
 (256 : Int) +
 x.getD (3 : Nat)
 (0 : Int) ≤
 (9223372036854775807 :
 Int)) ∧
 ((0 : Int) ≤ (6 : Int) ∧
 (6 : Int) <
 (↑x.length : Int)) ∧
 ((0 : Int) ≤ (7 : Int) ∧
 (7 : Int) <
 (↑x.length : Int)) ∧
 ∃ (y : Unit),
 True ∧
 x.getD (0 : Nat)
 (0 : Int) %
 (16 : Int) *
 (16 : Int) +
 x.getD (1 : Nat)
 (0 : Int) /
 (16 : Int) =
 (parse6 x).fst.fst ∧
 x.getD (1 : Nat)
 (0 :
 Int) %
 (16 :
 Int) *
 (65536 :
 Int) +
 x.getD
 (2 : Nat)
 (0 :
 Int) *
 (256 :
 Int) +
 x.getD (3 : Nat)
 (0 : Int) =
 (parse6
 x).fst.snd.fst ∧
 x.getD (4 : Nat)
 (0 :
 Int) *
 (256 :
 Int) +
 x.getD
 (5 : Nat)
 (0 : Int) =
 (parse6
 x).fst.snd.snd.fst ∧
 x.getD (6 : Nat)
 (0 : Int) =
 (parse6
 x).fst.snd.snd.snd.fst ∧
 x.getD (7 : Nat)
 (0 :
 Int) =
 (parse6
 x).fst.snd.snd.snd.snd.fst ∧
 (fromE
 x_1).fst.fst =
 (parse6
 x).fst.snd.snd.snd.snd.snd.fst ∧
 (fromE
 x_1).fst.snd.fst =
 (parse6
 x).fst.snd.snd.snd.snd.snd.snd.fst ∧
 (fromE
 x_1).fst.snd.snd =
 (parse6
 x).fst.snd.snd.snd.snd.snd.snd.snd.fst ∧
 (fromE
 x_2).fst.fst =
 (parse6
 x).fst.snd.snd.snd.snd.snd.snd.snd.snd.fst ∧
 (fromE
 x_2).fst.snd.fst =
 (parse6
 x).fst.snd.snd.snd.snd.snd.snd.snd.snd.snd.fst ∧
 (fromE
 x_2).fst.snd.snd =
 (parse6
 x).fst.snd.snd.snd.snd.snd.snd.snd.snd.snd.snd ∧
 (0 :
 Int) =
 (parse6
 x).snd ∧
 True))))))
theorem o_rparse6 : owes Try.prog (tab K0) LqL21 0 81 Try.f81 Parse6S = T_rparse6 := by kernel_rfl
def T_rsixteen : Prop :=
 ∀ (x : Int × Int × Bool),
 ((0 : Int) ≤ x.fst ∧ x.fst < (18446744073709551616 : Int)) ∧
 (0 : Int) ≤ x.snd.fst ∧ x.snd.fst < (18446744073709551616 : Int) →
 ifB (!x.snd.snd)
 (((0 : Int) ≤ (16 : Int) ∧
 (16 : Int) ≤ (16 : Int) ∧ (16 : Int) ≤ (140737488355328 : Int) ∧ (16 : Int) ≤ (140737488355328 : Int)) ∧
 ∃ (y : Unit), True ∧ (16 : Nat) = (whole6 x).length ∧ List.replicate (16 : Nat) (0 : Int) = whole6 x ∧ True)
 (∃ (x_1 : Int × Int × Bool),
 x.fst = x_1.fst ∧
 x.snd.fst = x_1.snd.fst ∧
 x.snd.snd = x_1.snd.snd ∧
 (((0 : Int) ≤ x_1.fst ∧ x_1.fst < (18446744073709551616 : Int)) ∧
 (0 : Int) ≤ x_1.snd.fst ∧ x_1.snd.fst < (18446744073709551616 : Int)) ∧
 ∀ (y : Unit),
 True → ∃ (y : Unit), True ∧ (bytesA x_1).length = (whole6 x).length ∧ bytesA x_1 = whole6 x ∧ True)
theorem o_rsixteen : owes Try.prog (tab K0) LqL21 0 126 Try.f126 Whole6S = T_rsixteen := by kernel_rfl
def T_rhop6 : Prop :=
 ∀ (x : List Int),
 (∀ (x_1 : Int), List.Mem x_1 x → (0 : Int) ≤ x_1 ∧ x_1 ≤ (255 : Int)) ∧ x.length ≤ most →
 ∃ (x_1 : List Int),
 x.length = x_1.length ∧
 x = x_1 ∧
 ((∀ (x : Int), List.Mem x x_1 → (0 : Int) ≤ x ∧ x ≤ (255 : Int)) ∧ x_1.length ≤ most) ∧
 ∀ (y : Unit),
 True →
 ifB (!decide ((parse6 x_1).snd = (0 : Int)))
 (∃ (y : Unit),
 True ∧ (0 : Nat) = (hop6 x).fst.length ∧ false = (hop6 x).snd ∧ [] = (hop6 x).fst ∧ True)
 (ifB (decide ((parse6 x_1).fst.snd.snd.snd.snd.fst < (2 : Int)))
 (∃ (y : Unit),
 True ∧ (0 : Nat) = (hop6 x).fst.length ∧ false = (hop6 x).snd ∧ [] = (hop6 x).fst ∧ True)
 (((-9223372036854775808 : Int) ≤ (40 : Int) + (parse6 x_1).fst.snd.snd.fst ∧
 (40 : Int) + (parse6 x_1).fst.snd.snd.fst ≤ (9223372036854775807 : Int)) ∧
 ((0 : Int) ≤ (40 : Int) + (parse6 x_1).fst.snd.snd.fst ∧
 (40 : Int) + (parse6 x_1).fst.snd.snd.fst ≤ (↑x.length : Int)) ∧
 (((0 : Nat) +
 (List.drop (0 : Nat)
 (List.take ((40 : Int) + (parse6 x_1).fst.snd.snd.fst).toNat x)).length) *
 (1 : Nat) ≤
 (140737488355328 : Nat) ∧
 (0 : Nat) +
 (List.drop (0 : Nat)
 (List.take ((40 : Int) + (parse6 x_1).fst.snd.snd.fst).toNat x)).length ≤
 (140737488355328 : Nat)) ∧
 ((0 : Int) ≤ (7 : Int) ∧
 (7 : Int) <
 (↑((0 : Nat) +
 (List.drop (0 : Nat)
 (List.take ((40 : Int) + (parse6 x_1).fst.snd.snd.fst).toNat x)).length) :
 Int)) ∧
 ((0 : Int) ≤ (7 : Int) ∧
 (7 : Int) <
 (↑((0 : Nat) +
 (List.drop (0 : Nat)
 (List.take ((40 : Int) + (parse6 x_1).fst.snd.snd.fst).toNat x)).length) :
 Int)) ∧
 ∃ (y : Unit),
 True ∧
 (0 : Nat) +
 (List.drop (0 : Nat)
 (List.take ((40 : Int) + (parse6 x_1).fst.snd.snd.fst).toNat x)).length =
 (hop6 x).fst.length ∧
 true = (hop6 x).snd ∧
 ([] ++
 List.drop (0 : Nat)
 (List.take ((40 : Int) + (parse6 x_1).fst.snd.snd.fst).toNat x)).set
 (7 : Nat)
 ((([] ++
 List.drop (0 : Nat)
 (List.take ((40 : Int) + (parse6 x_1).fst.snd.snd.fst).toNat
 x)).getD
 (7 : Nat) (0 : Int) -
 (1 : Int)) %
 (256 : Int)) =
 (hop6 x).fst ∧
 True))
theorem o_rhop6 : owes Try.prog (tab K1) LqL21 0 83 Try.f83 Hop6S = T_rhop6 := by kernel_rfl
def T_rbuild6 : Prop :=
 ∀ (x : H6 × List Int),
 (((((0 : Int) ≤ (src6 x.fst).fst ∧ (src6 x.fst).fst < (18446744073709551616 : Int)) ∧
 (0 : Int) ≤ (src6 x.fst).snd.fst ∧ (src6 x.fst).snd.fst < (18446744073709551616 : Int)) ∧
 ((0 : Int) ≤ (dst6 x.fst).fst ∧ (dst6 x.fst).fst < (18446744073709551616 : Int)) ∧
 (0 : Int) ≤ (dst6 x.fst).snd.fst ∧ (dst6 x.fst).snd.fst < (18446744073709551616 : Int)) ∧
 ∀ (x_1 : Int), List.Mem x_1 x.snd → (0 : Int) ≤ x_1 ∧ x_1 ≤ (255 : Int)) →
 ((0 : Int) ≤ min (↑x.snd.length : Int) (2008 : Int) ∧
 min (↑x.snd.length : Int) (2008 : Int) ≤ (↑x.snd.length : Int)) ∧
 ((0 : Int) ≤ bits BinOp.and IntKind.i64 x.fst.fst (255 : Int) ∧ (0 : Int) < (16 : Int)) ∧
 ((-9223372036854775808 : Int) ≤ (96 : Int) + bits BinOp.and IntKind.i64 x.fst.fst (255 : Int) / (16 : Int) ∧
 (96 : Int) + bits BinOp.and IntKind.i64 x.fst.fst (255 : Int) / (16 : Int) ≤ (9223372036854775807 : Int)) ∧
 ((0 : Int) ≤ bits BinOp.and IntKind.i64 x.fst.fst (255 : Int) ∧ (0 : Int) < (16 : Int)) ∧
 ((-9223372036854775808 : Int) ≤ bits BinOp.and IntKind.i64 x.fst.fst (255 : Int) % (16 : Int) * (16 : Int) ∧
 bits BinOp.and IntKind.i64 x.fst.fst (255 : Int) % (16 : Int) * (16 : Int) ≤
 (9223372036854775807 : Int)) ∧
 ((0 : Int) ≤ bits BinOp.and IntKind.i64 x.fst.snd.fst (1048575 : Int) ∧ (0 : Int) < (65536 : Int)) ∧
 ((-9223372036854775808 : Int) ≤
 bits BinOp.and IntKind.i64 x.fst.fst (255 : Int) % (16 : Int) * (16 : Int) +
 bits BinOp.and IntKind.i64 x.fst.snd.fst (1048575 : Int) / (65536 : Int) ∧
 bits BinOp.and IntKind.i64 x.fst.fst (255 : Int) % (16 : Int) * (16 : Int) +
 bits BinOp.and IntKind.i64 x.fst.snd.fst (1048575 : Int) / (65536 : Int) ≤
 (9223372036854775807 : Int)) ∧
 ((0 : Int) ≤ bits BinOp.and IntKind.i64 x.fst.snd.fst (1048575 : Int) ∧ (0 : Int) < (256 : Int)) ∧
 ((0 : Int) ≤ bits BinOp.and IntKind.i64 x.fst.snd.fst (1048575 : Int) / (256 : Int) ∧
 (0 : Int) < (256 : Int)) ∧
 ((0 : Int) ≤ bits BinOp.and IntKind.i64 x.fst.snd.fst (1048575 : Int) ∧ (0 : Int) < (256 : Int)) ∧
 ((0 : Int) ≤ (↑((min (↑x.snd.length : Int) (2008 : Int)).toNat - (0 : Nat)) : Int) ∧
 (0 : Int) < (256 : Int)) ∧
 ((0 : Int) ≤ (↑((min (↑x.snd.length : Int) (2008 : Int)).toNat - (0 : Nat)) : Int) ∧
 (0 : Int) < (256 : Int)) ∧
 ∃ (x_1 : Int × Int × Bool),
 x.fst.snd.snd.snd.snd.snd.fst = x_1.fst ∧
 x.fst.snd.snd.snd.snd.snd.snd.fst = x_1.snd.fst ∧
 x.fst.snd.snd.snd.snd.snd.snd.snd.fst = x_1.snd.snd ∧
 (((0 : Int) ≤ x_1.fst ∧ x_1.fst < (18446744073709551616 : Int)) ∧
 (0 : Int) ≤ x_1.snd.fst ∧ x_1.snd.fst < (18446744073709551616 : Int)) ∧
 ∀ (y : Unit),
 True →
 (((8 : Nat) + (whole6 x_1).length) * (1 : Nat) ≤ (140737488355328 : Nat) ∧
 (8 : Nat) + (whole6 x_1).length ≤ (140737488355328 : Nat)) ∧
 ∃ (x_2 : Int × Int × Bool),
 x.fst.snd.snd.snd.snd.snd.snd.snd.snd.fst = x_2.fst ∧
 x.fst.snd.snd.snd.snd.snd.snd.snd.snd.snd.fst = x_2.snd.fst ∧
 x.fst.snd.snd.snd.snd.snd.snd.snd.snd.snd.snd = x_2.snd.snd ∧
 (((0 : Int) ≤ x_2.fst ∧ x_2.fst < (18446744073709551616 : Int)) ∧
 (0 : Int) ≤ x_2.snd.fst ∧
 x_2.snd.fst < (18446744073709551616 : Int)) ∧
 ∀ (y : Unit),
 True →
 (((8 : Nat) + (whole6 x_1).length + (whole6 x_2).length) *
 (1 : Nat) ≤
 (140737488355328 : Nat) ∧
 (8 : Nat) + (whole6 x_1).length + (whole6 x_2).length ≤
 (140737488355328 : Nat)) ∧
 (((8 : Nat) + (whole6 x_1).length + (whole6 x_2).length +
 (List.drop (0 : Nat)
 (List.take
 (min (↑x.snd.length : Int)
 (2008 : Int)).toNat
 x.snd)).length) *
 (1 : Nat) ≤
 (140737488355328 : Nat) ∧
 (8 : Nat) + (whole6 x_1).length + (whole6 x_2).length +
 (List.drop (0 : Nat)
 (List.take
 (min (↑x.snd.length : Int) (2008 : Int)).toNat
 x.snd)).length ≤
 (140737488355328 : Nat)) ∧
 ∃ (y : Unit),
 True ∧
 (8 : Nat) + (whole6 x_1).length +
 (whole6 x_2).length +
 (List.drop (0 : Nat)
 (List.take
 (min (↑x.snd.length : Int)
 (2008 : Int)).toNat
 x.snd)).length =
 (build6 x.fst x.snd).length ∧
 [((96 : Int) +
 bits BinOp.and IntKind.i64 x.fst.fst
 (255 : Int) /
 (16 : Int)) %
 (256 : Int),
 (bits BinOp.and IntKind.i64 x.fst.fst
 (255 : Int) %
 (16 : Int) *
 (16 : Int) +
 bits BinOp.and IntKind.i64
 x.fst.snd.fst (1048575 : Int) /
 (65536 : Int)) %
 (256 : Int),
 bits BinOp.and IntKind.i64 x.fst.snd.fst
 (1048575 : Int) /
 (256 : Int) %
 (256 : Int) %
 (256 : Int),
 bits BinOp.and IntKind.i64 x.fst.snd.fst
 (1048575 : Int) %
 (256 : Int) %
 (256 : Int),
 (↑((min (↑x.snd.length : Int)
 (2008 : Int)).toNat -
 (0 : Nat)) :
 Int) /
 (256 : Int) %
 (256 : Int),
 (↑((min (↑x.snd.length : Int)
 (2008 : Int)).toNat -
 (0 : Nat)) :
 Int) %
 (256 : Int) %
 (256 : Int),
 bits BinOp.and IntKind.i64
 x.fst.snd.snd.snd.fst (255 : Int) %
 (256 : Int),
 bits BinOp.and IntKind.i64
 x.fst.snd.snd.snd.snd.fst
 (255 : Int) %
 (256 : Int)] ++
 whole6 x_1 ++
 whole6 x_2 ++
 List.drop (0 : Nat)
 (List.take
 (min (↑x.snd.length : Int)
 (2008 : Int)).toNat
 x.snd) =
 build6 x.fst x.snd ∧
 True
theorem o_rbuild6 : owes Try.prog (tab K1) LqL21 0 87 Try.f87 Build6S = T_rbuild6 := by kernel_rfl
def T_is6 : Prop :=
 ∀ (x : List Int × H6 × List Int),
 ((∀ (x_1 : Int), List.Mem x_1 x.fst → (0 : Int) ≤ x_1 ∧ x_1 ≤ (255 : Int)) ∧
 ((((0 : Int) ≤ (src6 x.snd.fst).fst ∧ (src6 x.snd.fst).fst < (18446744073709551616 : Int)) ∧
 (0 : Int) ≤ (src6 x.snd.fst).snd.fst ∧ (src6 x.snd.fst).snd.fst < (18446744073709551616 : Int)) ∧
 ((0 : Int) ≤ (dst6 x.snd.fst).fst ∧ (dst6 x.snd.fst).fst < (18446744073709551616 : Int)) ∧
 (0 : Int) ≤ (dst6 x.snd.fst).snd.fst ∧ (dst6 x.snd.fst).snd.fst < (18446744073709551616 : Int)) ∧
 ∀ (x_1 : Int), List.Mem x_1 x.snd.snd → (0 : Int) ≤ x_1 ∧ x_1 ≤ (255 : Int)) →
 ∃ (x_1 : Unit),
 True ∧
 ∀ (y : Unit),
 True →
 ifB (decide ((3000 : Int) < (↑x.fst.length : Int))) (∃ (y : Unit), True ∧ true = true ∧ True)
 (ifB (decide ((3000 : Int) < (↑x.snd.snd.length : Int))) (∃ (y : Unit), True ∧ true = true ∧ True)
 (∃ (x_2 : List Int),
 x.fst.length = x_2.length ∧
 x.fst = x_2 ∧
 ((∀ (x : Int), List.Mem x x_2 → (0 : Int) ≤ x ∧ x ≤ (255 : Int)) ∧ x_2.length ≤ most) ∧
 ∀ (y : Unit),
 True →
 ∃ (x_3 : List Int),
 x.fst.length = x_3.length ∧
 x.fst = x_3 ∧
 ((∀ (x : Int), List.Mem x x_3 → (0 : Int) ≤ x ∧ x ≤ (255 : Int)) ∧
 x_3.length ≤ most) ∧
 ∀ (y : Unit),
 True →
 ∃ (x_4 : List Int),
 x.fst.length = x_4.length ∧
 x.fst = x_4 ∧
 ((∀ (x : Int), List.Mem x x_4 → (0 : Int) ≤ x ∧ x ≤ (255 : Int)) ∧
 x_4.length ≤ most) ∧
 ∀ (y : Unit),
 True →
 ∃ (x_5 : List Int),
 x.fst.length = x_5.length ∧
 x.fst = x_5 ∧
 ((∀ (x : Int),
 List.Mem x x_5 → (0 : Int) ≤ x ∧ x ≤ (255 : Int)) ∧
 x_5.length ≤ most) ∧
 ∀ (y : Unit),
 True →
 ifB
 (decide
 ((parse6 x_2).fst.fst = (parse6 x_3).fst.fst) &&
 (decide
 ((parse6 x_2).fst.snd.fst =
 (parse6 x_3).fst.snd.fst) &&
 (decide
 ((parse6 x_2).fst.snd.snd.fst =
 (parse6 x_3).fst.snd.snd.fst) &&
 (decide
 ((parse6 x_2).fst.snd.snd.snd.fst =
 (parse6 x_3).fst.snd.snd.snd.fst) &&
 (decide
 ((parse6 x_2).fst.snd.snd.snd.snd.fst =
 (parse6 x_3).fst.snd.snd.snd.snd.fst) &&
 (decide
 ((parse6
 x_2).fst.snd.snd.snd.snd.snd.fst =
 (parse6
 x_3).fst.snd.snd.snd.snd.snd.fst) &&
 (decide
 ((parse6
 x_2).fst.snd.snd.snd.snd.snd.snd.fst =
 (parse6
 x_3).fst.snd.snd.snd.snd.snd.snd.fst) &&
 (decide
 ((parse6
 x_2).fst.snd.snd.snd.snd.snd.snd.snd.fst =
 (parse6
 x_3).fst.snd.snd.snd.snd.snd.snd.snd.fst) &&
 (decide
 ((parse6
 x_2).fst.snd.snd.snd.snd.snd.snd.snd.snd.fst =
 (parse6
 x_3).fst.snd.snd.snd.snd.snd.snd.snd.snd.fst) &&
 (decide
 ((parse6
 x_2).fst.snd.snd.snd.snd.snd.snd.snd.snd.snd.fst =
 (parse6
 x_3).fst.snd.snd.snd.snd.snd.snd.snd.snd.snd.fst) &&
 decide
 ((parse6
 x_2).fst.snd.snd.snd.snd.snd.snd.snd.snd.snd.snd =
 (parse6
 x_3).fst.snd.snd.snd.snd.snd.snd.snd.snd.snd.snd)))))))))))
 (ifB (decide ((parse6 x_2).snd = (parse6 x_3).snd))
 (ifB (decide ((hop6 x_4).fst = (hop6 x_5).fst))
 (ifB (decide ((hop6 x_4).snd = (hop6 x_5).snd))
 (∃ (x_6 : H6 × List Int),
 x.snd.fst.fst = x_6.fst.fst ∧
 x.snd.fst.snd.fst = x_6.fst.snd.fst ∧
 x.snd.fst.snd.snd.fst =
 x_6.fst.snd.snd.fst ∧
 x.snd.fst.snd.snd.snd.fst =
 x_6.fst.snd.snd.snd.fst ∧
 x.snd.fst.snd.snd.snd.snd.fst =
 x_6.fst.snd.snd.snd.snd.fst ∧
 x.snd.fst.snd.snd.snd.snd.snd.fst =
 x_6.fst.snd.snd.snd.snd.snd.fst ∧
 x.snd.fst.snd.snd.snd.snd.snd.snd.fst =
 x_6.fst.snd.snd.snd.snd.snd.snd.fst ∧
 x.snd.fst.snd.snd.snd.snd.snd.snd.snd.fst =
 x_6.fst.snd.snd.snd.snd.snd.snd.snd.fst ∧
 x.snd.fst.snd.snd.snd.snd.snd.snd.snd.snd.fst =
 x_6.fst.snd.snd.snd.snd.snd.snd.snd.snd.fst ∧
 x.snd.fst.snd.snd.snd.snd.snd.snd.snd.snd.snd.fst =
 x_6.fst.snd.snd.snd.snd.snd.snd.snd.snd.snd.fst ∧
 x.snd.fst.snd.snd.snd.snd.snd.snd.snd.snd.snd.snd =
 x_6.fst.snd.snd.snd.snd.snd.snd.snd.snd.snd.snd ∧
 x.snd.snd.length =
 x_6.snd.length ∧
 x.snd.snd = x_6.snd ∧
 (((((0 : Int) ≤
 (src6
 x_6.fst).fst ∧
 (src6
 x_6.fst).fst <
 (18446744073709551616 :
 Int)) ∧
 (0 : Int) ≤
 (src6
 x_6.fst).snd.fst ∧
 (src6
 x_6.fst).snd.fst <
 (18446744073709551616 :
 Int)) ∧
 ((0 : Int) ≤
 (dst6
 x_6.fst).fst ∧
 (dst6
 x_6.fst).fst <
 (18446744073709551616 :
 Int)) ∧
 (0 : Int) ≤
 (dst6
 x_6.fst).snd.fst ∧
 (dst6
 x_6.fst).snd.fst <
 (18446744073709551616 :
 Int)) ∧
 ∀ (x : Int),
 List.Mem x
 x_6.snd →
 (0 : Int) ≤
 x ∧
 x ≤
 (255 :
 Int)) ∧
 ∀ (y : Unit),
 True →
 ∃ (x_7 :
 H6 ×
 List Int),
 x.snd.fst.fst =
 x_7.fst.fst ∧
 x.snd.fst.snd.fst =
 x_7.fst.snd.fst ∧
 x.snd.fst.snd.snd.fst =
 x_7.fst.snd.snd.fst ∧
 x.snd.fst.snd.snd.snd.fst =
 x_7.fst.snd.snd.snd.fst ∧
 x.snd.fst.snd.snd.snd.snd.fst =
 x_7.fst.snd.snd.snd.snd.fst ∧
 x.snd.fst.snd.snd.snd.snd.snd.fst =
 x_7.fst.snd.snd.snd.snd.snd.fst ∧
 x.snd.fst.snd.snd.snd.snd.snd.snd.fst =
 x_7.fst.snd.snd.snd.snd.snd.snd.fst ∧
 x.snd.fst.snd.snd.snd.snd.snd.snd.snd.fst =
 x_7.fst.snd.snd.snd.snd.snd.snd.snd.fst ∧
 x.snd.fst.snd.snd.snd.snd.snd.snd.snd.snd.fst =
 x_7.fst.snd.snd.snd.snd.snd.snd.snd.snd.fst ∧
 x.snd.fst.snd.snd.snd.snd.snd.snd.snd.snd.snd.fst =
 x_7.fst.snd.snd.snd.snd.snd.snd.snd.snd.snd.fst ∧
 x.snd.fst.snd.snd.snd.snd.snd.snd.snd.snd.snd.snd =
 x_7.fst.snd.snd.snd.snd.snd.snd.snd.snd.snd.snd ∧
 x.snd.snd.length =
 x_7.snd.length ∧
 x.snd.snd =
 x_7.snd ∧
 (((((0 :
 Int) ≤
 (src6
 x_7.fst).fst ∧
 (src6
 x_7.fst).fst <
 (18446744073709551616 :
 Int)) ∧
 (0 :
 Int) ≤
 (src6
 x_7.fst).snd.fst ∧
 (src6
 x_7.fst).snd.fst <
 (18446744073709551616 :
 Int)) ∧
 ((0 :
 Int) ≤
 (dst6
 x_7.fst).fst ∧
 (dst6
 x_7.fst).fst <
 (18446744073709551616 :
 Int)) ∧
 (0 :
 Int) ≤
 (dst6
 x_7.fst).snd.fst ∧
 (dst6
 x_7.fst).snd.fst <
 (18446744073709551616 :
 Int)) ∧
 ∀
 (x :
 Int),
 List.Mem
 x
 x_7.snd →
 (0 :
 Int) ≤
 x ∧
 x ≤
 (255 :
 Int)) ∧
 ∀
 (y :
 Unit),
 True →
 ∃
 (y
 :
 Unit),
 True ∧
 decide
 (build6
 x_6.fst
 x_6.snd =
 build6
 x_7.fst
 x_7.snd) =
 true ∧
 True)
 (∃ (y : Unit), True ∧ false = true ∧ True))
 (∃ (y : Unit), True ∧ false = true ∧ True))
 (∃ (y : Unit), True ∧ false = true ∧ True))
 (∃ (y : Unit), True ∧ false = true ∧ True)))
theorem o_is6 : owes Try.prog (tab K2) LqL21 1 22 Try.f22 Is6L = T_is6 := by kernel_rfl
end Sp
