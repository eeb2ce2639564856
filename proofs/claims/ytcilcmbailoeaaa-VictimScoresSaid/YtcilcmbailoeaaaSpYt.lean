/- Printed by sx.py, a program of this work: what the walks of some functions owe. -/
import Derived.Test.YtcilcmbailoeaaaSpY
import Derived.ProofKit
set_option linter.all false
set_option maxRecDepth 100000
namespace Sp
open Go Go.Proofs Sx
def T_vsym (key : En → Int) : Prop :=
 ∀ (n : Nat) (x : List En × Nat × Nat × Nat),
 x.snd.fst < x.snd.snd.fst ∧
 x.snd.snd.fst < x.snd.snd.snd ∧
 x.snd.snd.snd ≤ x.fst.length ∧
 x.fst.length ≤ most ∧
 x.snd.snd.snd ≤ x.snd.fst + (n + (1 : Nat)) ∧
 List.Pairwise (fun (a b : En) => key a ≤ key b) (mids x.fst x.snd.fst x.snd.snd.fst) ∧
 List.Pairwise (fun (a b : En) => key a ≤ key b) (mids x.fst x.snd.snd.fst x.snd.snd.snd) →
 ((-9223372036854775808 : Int) ≤ (↑x.snd.snd.fst : Int) - (↑x.snd.fst : Int) ∧
 (↑x.snd.snd.fst : Int) - (↑x.snd.fst : Int) ≤ (9223372036854775807 : Int)) ∧
 ifB (decide ((↑x.snd.snd.fst : Int) - (↑x.snd.fst : Int) = (1 : Int)))
 (∃ (I : Int × Int → Prop),
 ∃ (μ : Int × Int → Nat),
 (∃ (x_1 : Int × Int), I x_1 ∧ (↑x.snd.snd.fst : Int) = x_1.fst ∧ (↑x.snd.snd.snd : Int) = x_1.snd ∧ True) ∧
 ∀ (x_1 : Int × Int),
 I x_1 →
 ifB (decide (x_1.fst < x_1.snd))
 (((-9223372036854775808 : Int) ≤ x_1.fst + x_1.snd ∧
 x_1.fst + x_1.snd ≤ (9223372036854775807 : Int)) ∧
 (0 : Int) ≤ (1 : Int) ∧
 ((-9223372036854775808 : Int) ≤ (x_1.fst + x_1.snd) % (18446744073709551616 : Int) / (2 : Int) ∧
 (x_1.fst + x_1.snd) % (18446744073709551616 : Int) / (2 : Int) ≤
 (9223372036854775807 : Int)) ∧
 ((0 : Int) ≤ (x_1.fst + x_1.snd) % (18446744073709551616 : Int) / (2 : Int) ∧
 (x_1.fst + x_1.snd) % (18446744073709551616 : Int) / (2 : Int) < (↑x.fst.length : Int)) ∧
 ((0 : Int) ≤ (↑x.snd.fst : Int) ∧ (↑x.snd.fst : Int) < (↑x.fst.length : Int)) ∧
 ∃ (x_2 : En × En),
 (x.fst.getD ((x_1.fst + x_1.snd) % (18446744073709551616 : Int) / (2 : Int)).toNat
 ((0 : Int), (0 : Int))).fst =
 x_2.fst.fst ∧
 (x.fst.getD ((x_1.fst + x_1.snd) % (18446744073709551616 : Int) / (2 : Int)).toNat
 ((0 : Int), (0 : Int))).snd =
 x_2.fst.snd ∧
 (x.fst.getD (↑x.snd.fst : Int).toNat ((0 : Int), (0 : Int))).fst = x_2.snd.fst ∧
 (x.fst.getD (↑x.snd.fst : Int).toNat ((0 : Int), (0 : Int))).snd = x_2.snd.snd ∧
 True ∧
 ∀ (y : Unit),
 True →
 ifB (decide (cmpK key x_2.fst x_2.snd < (0 : Int)))
 (((-9223372036854775808 : Int) ≤
 (x_1.fst + x_1.snd) % (18446744073709551616 : Int) / (2 : Int) +
 (1 : Int) ∧
 (x_1.fst + x_1.snd) % (18446744073709551616 : Int) / (2 : Int) +
 (1 : Int) ≤
 (9223372036854775807 : Int)) ∧
 ∃ (y : Int × Int),
 I y ∧
 μ y < μ x_1 ∧
 (x_1.fst + x_1.snd) % (18446744073709551616 : Int) / (2 : Int) +
 (1 : Int) =
 y.fst ∧
 x_1.snd = y.snd ∧ True)
 (∃ (y : Int × Int),
 I y ∧
 μ y < μ x_1 ∧
 x_1.fst = y.fst ∧
 (x_1.fst + x_1.snd) % (18446744073709551616 : Int) / (2 : Int) =
 y.snd ∧
 True))
 (∃ (I : Int × List En → Prop),
 ∃ (μ : Int × List En → Nat),
 (∃ (x_2 : Int × List En), I x_2 ∧ (↑x.snd.fst : Int) = x_2.fst ∧ x.fst = x_2.snd ∧ True) ∧
 ∀ (x_2 : Int × List En),
 I x_2 →
 ((-9223372036854775808 : Int) ≤ x_1.fst - (1 : Int) ∧
 x_1.fst - (1 : Int) ≤ (9223372036854775807 : Int)) ∧
 ifB (decide (x_2.fst < x_1.fst - (1 : Int)))
 (((-9223372036854775808 : Int) ≤ x_2.fst + (1 : Int) ∧
 x_2.fst + (1 : Int) ≤ (9223372036854775807 : Int)) ∧
 ((-9223372036854775808 : Int) ≤ x_2.fst + (1 : Int) ∧
 x_2.fst + (1 : Int) ≤ (9223372036854775807 : Int)) ∧
 ((0 : Int) ≤ x_2.fst + (1 : Int) ∧ x_2.fst + (1 : Int) < (↑x.fst.length : Int)) ∧
 ((0 : Int) ≤ x_2.fst ∧ x_2.fst < (↑x.fst.length : Int)) ∧
 ((0 : Int) ≤ x_2.fst ∧ x_2.fst < (↑x.fst.length : Int)) ∧
 ((0 : Int) ≤ x_2.fst + (1 : Int) ∧
 x_2.fst + (1 : Int) < (↑x.fst.length : Int)) ∧
 ((-9223372036854775808 : Int) ≤ x_2.fst + (1 : Int) ∧
 x_2.fst + (1 : Int) ≤ (9223372036854775807 : Int)) ∧
 ∃ (y : Int × List En),
 I y ∧
 μ y < μ x_2 ∧
 x_2.fst + (1 : Int) = y.fst ∧
 (x_2.snd.set x_2.fst.toNat
 ((x_2.snd.getD (x_2.fst + (1 : Int)).toNat
 ((0 : Int), (0 : Int))).fst,
 (x_2.snd.getD (x_2.fst + (1 : Int)).toNat
 ((0 : Int), (0 : Int))).snd)).set
 (x_2.fst + (1 : Int)).toNat
 ((x_2.snd.getD x_2.fst.toNat ((0 : Int), (0 : Int))).fst,
 (x_2.snd.getD x_2.fst.toNat
 ((0 : Int), (0 : Int))).snd) =
 y.snd ∧
 True)
 (∃ (y : List En), SSR key x.snd.fst x.snd.snd.snd x.fst y ∧ x_2.snd = y ∧ True)))
 (((-9223372036854775808 : Int) ≤ (↑x.snd.snd.snd : Int) - (↑x.snd.snd.fst : Int) ∧
 (↑x.snd.snd.snd : Int) - (↑x.snd.snd.fst : Int) ≤ (9223372036854775807 : Int)) ∧
 ifB (decide ((↑x.snd.snd.snd : Int) - (↑x.snd.snd.fst : Int) = (1 : Int)))
 (∃ (I : Int × Int → Prop),
 ∃ (μ : Int × Int → Nat),
 (∃ (x_1 : Int × Int), I x_1 ∧ (↑x.snd.fst : Int) = x_1.fst ∧ (↑x.snd.snd.fst : Int) = x_1.snd ∧ True) ∧
 ∀ (x_1 : Int × Int),
 I x_1 →
 ifB (decide (x_1.fst < x_1.snd))
 (((-9223372036854775808 : Int) ≤ x_1.fst + x_1.snd ∧
 x_1.fst + x_1.snd ≤ (9223372036854775807 : Int)) ∧
 (0 : Int) ≤ (1 : Int) ∧
 ((-9223372036854775808 : Int) ≤
 (x_1.fst + x_1.snd) % (18446744073709551616 : Int) / (2 : Int) ∧
 (x_1.fst + x_1.snd) % (18446744073709551616 : Int) / (2 : Int) ≤
 (9223372036854775807 : Int)) ∧
 ((0 : Int) ≤ (↑x.snd.snd.fst : Int) ∧ (↑x.snd.snd.fst : Int) < (↑x.fst.length : Int)) ∧
 ((0 : Int) ≤ (x_1.fst + x_1.snd) % (18446744073709551616 : Int) / (2 : Int) ∧
 (x_1.fst + x_1.snd) % (18446744073709551616 : Int) / (2 : Int) <
 (↑x.fst.length : Int)) ∧
 ∃ (x_2 : En × En),
 (x.fst.getD (↑x.snd.snd.fst : Int).toNat ((0 : Int), (0 : Int))).fst = x_2.fst.fst ∧
 (x.fst.getD (↑x.snd.snd.fst : Int).toNat ((0 : Int), (0 : Int))).snd =
 x_2.fst.snd ∧
 (x.fst.getD
 ((x_1.fst + x_1.snd) % (18446744073709551616 : Int) / (2 : Int)).toNat
 ((0 : Int), (0 : Int))).fst =
 x_2.snd.fst ∧
 (x.fst.getD
 ((x_1.fst + x_1.snd) % (18446744073709551616 : Int) / (2 : Int)).toNat
 ((0 : Int), (0 : Int))).snd =
 x_2.snd.snd ∧
 True ∧
 ∀ (y : Unit),
 True →
 ifB (!decide (cmpK key x_2.fst x_2.snd < (0 : Int)))
 (((-9223372036854775808 : Int) ≤
 (x_1.fst + x_1.snd) % (18446744073709551616 : Int) /
 (2 : Int) +
 (1 : Int) ∧
 (x_1.fst + x_1.snd) % (18446744073709551616 : Int) / (2 : Int) +
 (1 : Int) ≤
 (9223372036854775807 : Int)) ∧
 ∃ (y : Int × Int),
 I y ∧
 μ y < μ x_1 ∧
 (x_1.fst + x_1.snd) % (18446744073709551616 : Int) /
 (2 : Int) +
 (1 : Int) =
 y.fst ∧
 x_1.snd = y.snd ∧ True)
 (∃ (y : Int × Int),
 I y ∧
 μ y < μ x_1 ∧
 x_1.fst = y.fst ∧
 (x_1.fst + x_1.snd) % (18446744073709551616 : Int) /
 (2 : Int) =
 y.snd ∧
 True))
 (∃ (I : Int × List En → Prop),
 ∃ (μ : Int × List En → Nat),
 (∃ (x_2 : Int × List En),
 I x_2 ∧ (↑x.snd.snd.fst : Int) = x_2.fst ∧ x.fst = x_2.snd ∧ True) ∧
 ∀ (x_2 : Int × List En),
 I x_2 →
 ifB (decide (x_1.fst < x_2.fst))
 (((-9223372036854775808 : Int) ≤ x_2.fst - (1 : Int) ∧
 x_2.fst - (1 : Int) ≤ (9223372036854775807 : Int)) ∧
 ((-9223372036854775808 : Int) ≤ x_2.fst - (1 : Int) ∧
 x_2.fst - (1 : Int) ≤ (9223372036854775807 : Int)) ∧
 ((0 : Int) ≤ x_2.fst - (1 : Int) ∧
 x_2.fst - (1 : Int) < (↑x.fst.length : Int)) ∧
 ((0 : Int) ≤ x_2.fst ∧ x_2.fst < (↑x.fst.length : Int)) ∧
 ((0 : Int) ≤ x_2.fst ∧ x_2.fst < (↑x.fst.length : Int)) ∧
 ((0 : Int) ≤ x_2.fst - (1 : Int) ∧
 x_2.fst - (1 : Int) < (↑x.fst.length : Int)) ∧
 ((-9223372036854775808 : Int) ≤ x_2.fst - (1 : Int) ∧
 x_2.fst - (1 : Int) ≤ (9223372036854775807 : Int)) ∧
 ∃ (y : Int × List En),
 I y ∧
 μ y < μ x_2 ∧
 x_2.fst - (1 : Int) = y.fst ∧
 (x_2.snd.set x_2.fst.toNat
 ((x_2.snd.getD (x_2.fst - (1 : Int)).toNat
 ((0 : Int), (0 : Int))).fst,
 (x_2.snd.getD (x_2.fst - (1 : Int)).toNat
 ((0 : Int), (0 : Int))).snd)).set
 (x_2.fst - (1 : Int)).toNat
 ((x_2.snd.getD x_2.fst.toNat
 ((0 : Int), (0 : Int))).fst,
 (x_2.snd.getD x_2.fst.toNat
 ((0 : Int), (0 : Int))).snd) =
 y.snd ∧
 True)
 (∃ (y : List En), SSR key x.snd.fst x.snd.snd.snd x.fst y ∧ x_2.snd = y ∧ True)))
 (((-9223372036854775808 : Int) ≤ (↑x.snd.fst : Int) + (↑x.snd.snd.snd : Int) ∧
 (↑x.snd.fst : Int) + (↑x.snd.snd.snd : Int) ≤ (9223372036854775807 : Int)) ∧
 (0 : Int) ≤ (1 : Int) ∧
 ((-9223372036854775808 : Int) ≤
 ((↑x.snd.fst : Int) + (↑x.snd.snd.snd : Int)) % (18446744073709551616 : Int) / (2 : Int) ∧
 ((↑x.snd.fst : Int) + (↑x.snd.snd.snd : Int)) % (18446744073709551616 : Int) / (2 : Int) ≤
 (9223372036854775807 : Int)) ∧
 ((-9223372036854775808 : Int) ≤
 ((↑x.snd.fst : Int) + (↑x.snd.snd.snd : Int)) % (18446744073709551616 : Int) / (2 : Int) +
 (↑x.snd.snd.fst : Int) ∧
 ((↑x.snd.fst : Int) + (↑x.snd.snd.snd : Int)) % (18446744073709551616 : Int) / (2 : Int) +
 (↑x.snd.snd.fst : Int) ≤
 (9223372036854775807 : Int)) ∧
 ifB
 (decide
 (((↑x.snd.fst : Int) + (↑x.snd.snd.snd : Int)) % (18446744073709551616 : Int) / (2 : Int) <
 (↑x.snd.snd.fst : Int)))
 (((-9223372036854775808 : Int) ≤
 ((↑x.snd.fst : Int) + (↑x.snd.snd.snd : Int)) % (18446744073709551616 : Int) / (2 : Int) +
 (↑x.snd.snd.fst : Int) -
 (↑x.snd.snd.snd : Int) ∧
 ((↑x.snd.fst : Int) + (↑x.snd.snd.snd : Int)) % (18446744073709551616 : Int) / (2 : Int) +
 (↑x.snd.snd.fst : Int) -
 (↑x.snd.snd.snd : Int) ≤
 (9223372036854775807 : Int)) ∧
 ((-9223372036854775808 : Int) ≤
 ((↑x.snd.fst : Int) + (↑x.snd.snd.snd : Int)) % (18446744073709551616 : Int) / (2 : Int) +
 (↑x.snd.snd.fst : Int) -
 (1 : Int) ∧
 ((↑x.snd.fst : Int) + (↑x.snd.snd.snd : Int)) % (18446744073709551616 : Int) / (2 : Int) +
 (↑x.snd.snd.fst : Int) -
 (1 : Int) ≤
 (9223372036854775807 : Int)) ∧
 ∃ (I : Int × Int → Prop),
 ∃ (μ : Int × Int → Nat),
 (∃ (x_1 : Int × Int),
 I x_1 ∧
 ((↑x.snd.fst : Int) + (↑x.snd.snd.snd : Int)) % (18446744073709551616 : Int) /
 (2 : Int) +
 (↑x.snd.snd.fst : Int) -
 (↑x.snd.snd.snd : Int) =
 x_1.fst ∧
 ((↑x.snd.fst : Int) + (↑x.snd.snd.snd : Int)) % (18446744073709551616 : Int) /
 (2 : Int) =
 x_1.snd ∧
 True) ∧
 ∀ (x_1 : Int × Int),
 I x_1 →
 ifB (decide (x_1.fst < x_1.snd))
 (((-9223372036854775808 : Int) ≤ x_1.fst + x_1.snd ∧
 x_1.fst + x_1.snd ≤ (9223372036854775807 : Int)) ∧
 (0 : Int) ≤ (1 : Int) ∧
 ((-9223372036854775808 : Int) ≤
 (x_1.fst + x_1.snd) % (18446744073709551616 : Int) / (2 : Int) ∧
 (x_1.fst + x_1.snd) % (18446744073709551616 : Int) / (2 : Int) ≤
 (9223372036854775807 : Int)) ∧
 ((-9223372036854775808 : Int) ≤
 ((↑x.snd.fst : Int) + (↑x.snd.snd.snd : Int)) %
 (18446744073709551616 : Int) /
 (2 : Int) +
 (↑x.snd.snd.fst : Int) -
 (1 : Int) -
 (x_1.fst + x_1.snd) % (18446744073709551616 : Int) / (2 : Int) ∧
 ((↑x.snd.fst : Int) + (↑x.snd.snd.snd : Int)) %
 (18446744073709551616 : Int) /
 (2 : Int) +
 (↑x.snd.snd.fst : Int) -
 (1 : Int) -
 (x_1.fst + x_1.snd) % (18446744073709551616 : Int) / (2 : Int) ≤
 (9223372036854775807 : Int)) ∧
 ((0 : Int) ≤
 ((↑x.snd.fst : Int) + (↑x.snd.snd.snd : Int)) %
 (18446744073709551616 : Int) /
 (2 : Int) +
 (↑x.snd.snd.fst : Int) -
 (1 : Int) -
 (x_1.fst + x_1.snd) % (18446744073709551616 : Int) / (2 : Int) ∧
 ((↑x.snd.fst : Int) + (↑x.snd.snd.snd : Int)) %
 (18446744073709551616 : Int) /
 (2 : Int) +
 (↑x.snd.snd.fst : Int) -
 (1 : Int) -
 (x_1.fst + x_1.snd) % (18446744073709551616 : Int) / (2 : Int) <
 (↑x.fst.length : Int)) ∧
 ((0 : Int) ≤
 (x_1.fst + x_1.snd) % (18446744073709551616 : Int) / (2 : Int) ∧
 (x_1.fst + x_1.snd) % (18446744073709551616 : Int) / (2 : Int) <
 (↑x.fst.length : Int)) ∧
 ∃ (x_2 : En × En),
 (x.fst.getD
 (((↑x.snd.fst : Int) + (↑x.snd.snd.snd : Int)) %
 (18446744073709551616 : Int) /
 (2 : Int) +
 (↑x.snd.snd.fst : Int) -
 (1 : Int) -
 (x_1.fst + x_1.snd) % (18446744073709551616 : Int) /
 (2 : Int)).toNat
 ((0 : Int), (0 : Int))).fst =
 x_2.fst.fst ∧
 (x.fst.getD
 (((↑x.snd.fst : Int) + (↑x.snd.snd.snd : Int)) %
 (18446744073709551616 : Int) /
 (2 : Int) +
 (↑x.snd.snd.fst : Int) -
 (1 : Int) -
 (x_1.fst + x_1.snd) % (18446744073709551616 : Int) /
 (2 : Int)).toNat
 ((0 : Int), (0 : Int))).snd =
 x_2.fst.snd ∧
 (x.fst.getD
 ((x_1.fst + x_1.snd) % (18446744073709551616 : Int) /
 (2 : Int)).toNat
 ((0 : Int), (0 : Int))).fst =
 x_2.snd.fst ∧
 (x.fst.getD
 ((x_1.fst + x_1.snd) % (18446744073709551616 : Int) /
 (2 : Int)).toNat
 ((0 : Int), (0 : Int))).snd =
 x_2.snd.snd ∧
 True ∧
 ∀ (y : Unit),
 True →
 ifB (!decide (cmpK key x_2.fst x_2.snd < (0 : Int)))
 (((-9223372036854775808 : Int) ≤
 (x_1.fst + x_1.snd) %
 (18446744073709551616 : Int) /
 (2 : Int) +
 (1 : Int) ∧
 (x_1.fst + x_1.snd) %
 (18446744073709551616 : Int) /
 (2 : Int) +
 (1 : Int) ≤
 (9223372036854775807 : Int)) ∧
 ∃ (y : Int × Int),
 I y ∧
 μ y < μ x_1 ∧
 (x_1.fst + x_1.snd) %
 (18446744073709551616 : Int) /
 (2 : Int) +
 (1 : Int) =
 y.fst ∧
 x_1.snd = y.snd ∧ True)
 (∃ (y : Int × Int),
 I y ∧
 μ y < μ x_1 ∧
 x_1.fst = y.fst ∧
 (x_1.fst + x_1.snd) %
 (18446744073709551616 : Int) /
 (2 : Int) =
 y.snd ∧
 True))
 (((-9223372036854775808 : Int) ≤
 ((↑x.snd.fst : Int) + (↑x.snd.snd.snd : Int)) %
 (18446744073709551616 : Int) /
 (2 : Int) +
 (↑x.snd.snd.fst : Int) -
 x_1.fst ∧
 ((↑x.snd.fst : Int) + (↑x.snd.snd.snd : Int)) % (18446744073709551616 : Int) /
 (2 : Int) +
 (↑x.snd.snd.fst : Int) -
 x_1.fst ≤
 (9223372036854775807 : Int)) ∧
 ifB (decide (x_1.fst < (↑x.snd.snd.fst : Int)))
 (ifB
 (decide
 ((↑x.snd.snd.fst : Int) <
 ((↑x.snd.fst : Int) + (↑x.snd.snd.snd : Int)) %
 (18446744073709551616 : Int) /
 (2 : Int) +
 (↑x.snd.snd.fst : Int) -
 x_1.fst))
 (∃ (x_2 : List En × Nat × Nat × Nat),
 x.fst.length = x_2.fst.length ∧
 x_1.fst = (↑x_2.snd.fst : Int) ∧
 (↑x.snd.snd.fst : Int) = (↑x_2.snd.snd.fst : Int) ∧
 ((↑x.snd.fst : Int) + (↑x.snd.snd.snd : Int)) %
 (18446744073709551616 : Int) /
 (2 : Int) +
 (↑x.snd.snd.fst : Int) -
 x_1.fst =
 (↑x_2.snd.snd.snd : Int) ∧
 x.fst = x_2.fst ∧
 (x_2.snd.fst < x_2.snd.snd.fst ∧
 x_2.snd.snd.fst < x_2.snd.snd.snd ∧
 x_2.snd.snd.snd ≤ x_2.fst.length ∧
 x_2.fst.length ≤ most) ∧
 ∀ (y : List En),
 y =
 rotL x_2.fst x_2.snd.fst x_2.snd.snd.fst
 x_2.snd.snd.snd →
 ifB (decide ((↑x.snd.fst : Int) < x_1.fst))
 (ifB
 (decide
 (x_1.fst <
 ((↑x.snd.fst : Int) + (↑x.snd.snd.snd : Int)) %
 (18446744073709551616 : Int) /
 (2 : Int)))
 (∃ (x_3 : List En × Nat × Nat × Nat),
 x.fst.length = x_3.fst.length ∧
 (↑x.snd.fst : Int) = (↑x_3.snd.fst : Int) ∧
 x_1.fst = (↑x_3.snd.snd.fst : Int) ∧
 ((↑x.snd.fst : Int) +
 (↑x.snd.snd.snd : Int)) %
 (18446744073709551616 : Int) /
 (2 : Int) =
 (↑x_3.snd.snd.snd : Int) ∧
 y = x_3.fst ∧
 (x_3.snd.fst < x_3.snd.snd.fst ∧
 x_3.snd.snd.fst < x_3.snd.snd.snd ∧
 x_3.snd.snd.snd ≤ x_3.fst.length ∧
 x_3.fst.length ≤ most ∧
 x_3.snd.snd.snd ≤
 x_3.snd.fst + n ∧
 List.Pairwise
 (fun (a b : En) =>
 key a ≤ key b)
 (mids x_3.fst x_3.snd.fst
 x_3.snd.snd.fst) ∧
 List.Pairwise
 (fun (a b : En) =>
 key a ≤ key b)
 (mids x_3.fst
 x_3.snd.snd.fst
 x_3.snd.snd.snd)) ∧
 ∀ (y : List En),
 SSR key x_3.snd.fst x_3.snd.snd.snd
 x_3.fst y →
 ifB
 (decide
 (((↑x.snd.fst : Int) +
 (↑x.snd.snd.snd :
 Int)) %
 (18446744073709551616 :
 Int) /
 (2 : Int) <
 ((↑x.snd.fst : Int) +
 (↑x.snd.snd.snd :
 Int)) %
 (18446744073709551616 :
 Int) /
 (2 : Int) +
 (↑x.snd.snd.fst : Int) -
 x_1.fst))
 (ifB
 (decide
 (((↑x.snd.fst : Int) +
 (↑x.snd.snd.snd :
 Int)) %
 (18446744073709551616 :
 Int) /
 (2 : Int) +
 (↑x.snd.snd.fst : Int) -
 x_1.fst <
 (↑x.snd.snd.snd : Int)))
 (∃ (x_4 :
 List En × Nat × Nat × Nat),
 x.fst.length =
 x_4.fst.length ∧
 ((↑x.snd.fst : Int) +
 (↑x.snd.snd.snd :
 Int)) %
 (18446744073709551616 :
 Int) /
 (2 : Int) =
 (↑x_4.snd.fst : Int) ∧
 ((↑x.snd.fst : Int) +
 (↑x.snd.snd.snd :
 Int)) %
 (18446744073709551616 :
 Int) /
 (2 : Int) +
 (↑x.snd.snd.fst :
 Int) -
 x_1.fst =
 (↑x_4.snd.snd.fst :
 Int) ∧
 (↑x.snd.snd.snd : Int) =
 (↑x_4.snd.snd.snd :
 Int) ∧
 y = x_4.fst ∧
 (x_4.snd.fst <
 x_4.snd.snd.fst ∧
 x_4.snd.snd.fst <
 x_4.snd.snd.snd ∧
 x_4.snd.snd.snd ≤
 x_4.fst.length ∧
 x_4.fst.length ≤
 most ∧
 x_4.snd.snd.snd ≤
 x_4.snd.fst +
 n ∧
 List.Pairwise
 (fun
 (a
 b :
 En) =>
 key
 a ≤
 key
 b)
 (mids
 x_4.fst
 x_4.snd.fst
 x_4.snd.snd.fst) ∧
 List.Pairwise
 (fun
 (a
 b :
 En) =>
 key
 a ≤
 key
 b)
 (mids
 x_4.fst
 x_4.snd.snd.fst
 x_4.snd.snd.snd)) ∧
 ∀ (y : List En),
 SSR key
 x_4.snd.fst
 x_4.snd.snd.snd
 x_4.fst y →
 ∃ (y_1 :
 List En),
 SSR key
 x.snd.fst
 x.snd.snd.snd
 x.fst
 y_1 ∧
 y = y_1 ∧
 True)
 (∃ (y_1 : List En),
 SSR key x.snd.fst
 x.snd.snd.snd x.fst y_1 ∧
 y = y_1 ∧ True))
 (∃ (y_1 : List En),
 SSR key x.snd.fst x.snd.snd.snd
 x.fst y_1 ∧
 y = y_1 ∧ True))
 (ifB
 (decide
 (((↑x.snd.fst : Int) + (↑x.snd.snd.snd : Int)) %
 (18446744073709551616 : Int) /
 (2 : Int) <
 ((↑x.snd.fst : Int) + (↑x.snd.snd.snd : Int)) %
 (18446744073709551616 : Int) /
 (2 : Int) +
 (↑x.snd.snd.fst : Int) -
 x_1.fst))
 (ifB
 (decide
 (((↑x.snd.fst : Int) + (↑x.snd.snd.snd : Int)) %
 (18446744073709551616 : Int) /
 (2 : Int) +
 (↑x.snd.snd.fst : Int) -
 x_1.fst <
 (↑x.snd.snd.snd : Int)))
 (∃ (x_3 : List En × Nat × Nat × Nat),
 x.fst.length = x_3.fst.length ∧
 ((↑x.snd.fst : Int) +
 (↑x.snd.snd.snd : Int)) %
 (18446744073709551616 : Int) /
 (2 : Int) =
 (↑x_3.snd.fst : Int) ∧
 ((↑x.snd.fst : Int) +
 (↑x.snd.snd.snd : Int)) %
 (18446744073709551616 : Int) /
 (2 : Int) +
 (↑x.snd.snd.fst : Int) -
 x_1.fst =
 (↑x_3.snd.snd.fst : Int) ∧
 (↑x.snd.snd.snd : Int) =
 (↑x_3.snd.snd.snd : Int) ∧
 y = x_3.fst ∧
 (x_3.snd.fst < x_3.snd.snd.fst ∧
 x_3.snd.snd.fst <
 x_3.snd.snd.snd ∧
 x_3.snd.snd.snd ≤
 x_3.fst.length ∧
 x_3.fst.length ≤ most ∧
 x_3.snd.snd.snd ≤
 x_3.snd.fst + n ∧
 List.Pairwise
 (fun (a b : En) =>
 key a ≤ key b)
 (mids x_3.fst
 x_3.snd.fst
 x_3.snd.snd.fst) ∧
 List.Pairwise
 (fun (a b : En) =>
 key a ≤ key b)
 (mids x_3.fst
 x_3.snd.snd.fst
 x_3.snd.snd.snd)) ∧
 ∀ (y : List En),
 SSR key x_3.snd.fst
 x_3.snd.snd.snd x_3.fst y →
 ∃ (y_1 : List En),
 SSR key x.snd.fst
 x.snd.snd.snd x.fst y_1 ∧
 y = y_1 ∧ True)
 (∃ (y_1 : List En),
 SSR key x.snd.fst x.snd.snd.snd x.fst y_1 ∧
 y = y_1 ∧ True))
 (∃ (y_1 : List En),
 SSR key x.snd.fst x.snd.snd.snd x.fst y_1 ∧
 y = y_1 ∧ True)))
 (ifB
 (decide
 (((↑x.snd.fst : Int) + (↑x.snd.snd.snd : Int)) %
 (18446744073709551616 : Int) /
 (2 : Int) <
 ((↑x.snd.fst : Int) + (↑x.snd.snd.snd : Int)) %
 (18446744073709551616 : Int) /
 (2 : Int) +
 (↑x.snd.snd.fst : Int) -
 x_1.fst))
 (ifB
 (decide
 (((↑x.snd.fst : Int) + (↑x.snd.snd.snd : Int)) %
 (18446744073709551616 : Int) /
 (2 : Int) +
 (↑x.snd.snd.fst : Int) -
 x_1.fst <
 (↑x.snd.snd.snd : Int)))
 (∃ (x_3 : List En × Nat × Nat × Nat),
 x.fst.length = x_3.fst.length ∧
 ((↑x.snd.fst : Int) + (↑x.snd.snd.snd : Int)) %
 (18446744073709551616 : Int) /
 (2 : Int) =
 (↑x_3.snd.fst : Int) ∧
 ((↑x.snd.fst : Int) +
 (↑x.snd.snd.snd : Int)) %
 (18446744073709551616 : Int) /
 (2 : Int) +
 (↑x.snd.snd.fst : Int) -
 x_1.fst =
 (↑x_3.snd.snd.fst : Int) ∧
 (↑x.snd.snd.snd : Int) =
 (↑x_3.snd.snd.snd : Int) ∧
 y = x_3.fst ∧
 (x_3.snd.fst < x_3.snd.snd.fst ∧
 x_3.snd.snd.fst < x_3.snd.snd.snd ∧
 x_3.snd.snd.snd ≤ x_3.fst.length ∧
 x_3.fst.length ≤ most ∧
 x_3.snd.snd.snd ≤
 x_3.snd.fst + n ∧
 List.Pairwise
 (fun (a b : En) =>
 key a ≤ key b)
 (mids x_3.fst
 x_3.snd.fst
 x_3.snd.snd.fst) ∧
 List.Pairwise
 (fun (a b : En) =>
 key a ≤ key b)
 (mids x_3.fst
 x_3.snd.snd.fst
 x_3.snd.snd.snd)) ∧
 ∀ (y : List En),
 SSR key x_3.snd.fst x_3.snd.snd.snd
 x_3.fst y →
 ∃ (y_1 : List En),
 SSR key x.snd.fst x.snd.snd.snd
 x.fst y_1 ∧
 y = y_1 ∧ True)
 (∃ (y_1 : List En),
 SSR key x.snd.fst x.snd.snd.snd x.fst y_1 ∧
 y = y_1 ∧ True))
 (∃ (y_1 : List En),
 SSR key x.snd.fst x.snd.snd.snd x.fst y_1 ∧
 y = y_1 ∧ True)))
 (ifB (decide ((↑x.snd.fst : Int) < x_1.fst))
 (ifB
 (decide
 (x_1.fst <
 ((↑x.snd.fst : Int) + (↑x.snd.snd.snd : Int)) %
 (18446744073709551616 : Int) /
 (2 : Int)))
 (∃ (x_2 : List En × Nat × Nat × Nat),
 x.fst.length = x_2.fst.length ∧
 (↑x.snd.fst : Int) = (↑x_2.snd.fst : Int) ∧
 x_1.fst = (↑x_2.snd.snd.fst : Int) ∧
 ((↑x.snd.fst : Int) + (↑x.snd.snd.snd : Int)) %
 (18446744073709551616 : Int) /
 (2 : Int) =
 (↑x_2.snd.snd.snd : Int) ∧
 x.fst = x_2.fst ∧
 (x_2.snd.fst < x_2.snd.snd.fst ∧
 x_2.snd.snd.fst < x_2.snd.snd.snd ∧
 x_2.snd.snd.snd ≤ x_2.fst.length ∧
 x_2.fst.length ≤ most ∧
 x_2.snd.snd.snd ≤ x_2.snd.fst + n ∧
 List.Pairwise
 (fun (a b : En) => key a ≤ key b)
 (mids x_2.fst x_2.snd.fst x_2.snd.snd.fst) ∧
 List.Pairwise
 (fun (a b : En) => key a ≤ key b)
 (mids x_2.fst x_2.snd.snd.fst
 x_2.snd.snd.snd)) ∧
 ∀ (y : List En),
 SSR key x_2.snd.fst x_2.snd.snd.snd x_2.fst y →
 ifB
 (decide
 (((↑x.snd.fst : Int) + (↑x.snd.snd.snd : Int)) %
 (18446744073709551616 : Int) /
 (2 : Int) <
 ((↑x.snd.fst : Int) + (↑x.snd.snd.snd : Int)) %
 (18446744073709551616 : Int) /
 (2 : Int) +
 (↑x.snd.snd.fst : Int) -
 x_1.fst))
 (ifB
 (decide
 (((↑x.snd.fst : Int) + (↑x.snd.snd.snd : Int)) %
 (18446744073709551616 : Int) /
 (2 : Int) +
 (↑x.snd.snd.fst : Int) -
 x_1.fst <
 (↑x.snd.snd.snd : Int)))
 (∃ (x_3 : List En × Nat × Nat × Nat),
 x.fst.length = x_3.fst.length ∧
 ((↑x.snd.fst : Int) +
 (↑x.snd.snd.snd : Int)) %
 (18446744073709551616 : Int) /
 (2 : Int) =
 (↑x_3.snd.fst : Int) ∧
 ((↑x.snd.fst : Int) +
 (↑x.snd.snd.snd : Int)) %
 (18446744073709551616 : Int) /
 (2 : Int) +
 (↑x.snd.snd.fst : Int) -
 x_1.fst =
 (↑x_3.snd.snd.fst : Int) ∧
 (↑x.snd.snd.snd : Int) =
 (↑x_3.snd.snd.snd : Int) ∧
 y = x_3.fst ∧
 (x_3.snd.fst < x_3.snd.snd.fst ∧
 x_3.snd.snd.fst <
 x_3.snd.snd.snd ∧
 x_3.snd.snd.snd ≤
 x_3.fst.length ∧
 x_3.fst.length ≤ most ∧
 x_3.snd.snd.snd ≤
 x_3.snd.fst + n ∧
 List.Pairwise
 (fun (a b : En) =>
 key a ≤ key b)
 (mids x_3.fst
 x_3.snd.fst
 x_3.snd.snd.fst) ∧
 List.Pairwise
 (fun (a b : En) =>
 key a ≤ key b)
 (mids x_3.fst
 x_3.snd.snd.fst
 x_3.snd.snd.snd)) ∧
 ∀ (y : List En),
 SSR key x_3.snd.fst
 x_3.snd.snd.snd x_3.fst y →
 ∃ (y_1 : List En),
 SSR key x.snd.fst
 x.snd.snd.snd x.fst y_1 ∧
 y = y_1 ∧ True)
 (∃ (y_1 : List En),
 SSR key x.snd.fst x.snd.snd.snd x.fst y_1 ∧
 y = y_1 ∧ True))
 (∃ (y_1 : List En),
 SSR key x.snd.fst x.snd.snd.snd x.fst y_1 ∧
 y = y_1 ∧ True))
 (ifB
 (decide
 (((↑x.snd.fst : Int) + (↑x.snd.snd.snd : Int)) %
 (18446744073709551616 : Int) /
 (2 : Int) <
 ((↑x.snd.fst : Int) + (↑x.snd.snd.snd : Int)) %
 (18446744073709551616 : Int) /
 (2 : Int) +
 (↑x.snd.snd.fst : Int) -
 x_1.fst))
 (ifB
 (decide
 (((↑x.snd.fst : Int) + (↑x.snd.snd.snd : Int)) %
 (18446744073709551616 : Int) /
 (2 : Int) +
 (↑x.snd.snd.fst : Int) -
 x_1.fst <
 (↑x.snd.snd.snd : Int)))
 (∃ (x_2 : List En × Nat × Nat × Nat),
 x.fst.length = x_2.fst.length ∧
 ((↑x.snd.fst : Int) + (↑x.snd.snd.snd : Int)) %
 (18446744073709551616 : Int) /
 (2 : Int) =
 (↑x_2.snd.fst : Int) ∧
 ((↑x.snd.fst : Int) + (↑x.snd.snd.snd : Int)) %
 (18446744073709551616 : Int) /
 (2 : Int) +
 (↑x.snd.snd.fst : Int) -
 x_1.fst =
 (↑x_2.snd.snd.fst : Int) ∧
 (↑x.snd.snd.snd : Int) = (↑x_2.snd.snd.snd : Int) ∧
 x.fst = x_2.fst ∧
 (x_2.snd.fst < x_2.snd.snd.fst ∧
 x_2.snd.snd.fst < x_2.snd.snd.snd ∧
 x_2.snd.snd.snd ≤ x_2.fst.length ∧
 x_2.fst.length ≤ most ∧
 x_2.snd.snd.snd ≤ x_2.snd.fst + n ∧
 List.Pairwise
 (fun (a b : En) => key a ≤ key b)
 (mids x_2.fst x_2.snd.fst
 x_2.snd.snd.fst) ∧
 List.Pairwise
 (fun (a b : En) => key a ≤ key b)
 (mids x_2.fst x_2.snd.snd.fst
 x_2.snd.snd.snd)) ∧
 ∀ (y : List En),
 SSR key x_2.snd.fst x_2.snd.snd.snd x_2.fst y →
 ∃ (y_1 : List En),
 SSR key x.snd.fst x.snd.snd.snd x.fst y_1 ∧
 y = y_1 ∧ True)
 (∃ (y : List En),
 SSR key x.snd.fst x.snd.snd.snd x.fst y ∧ x.fst = y ∧ True))
 (∃ (y : List En),
 SSR key x.snd.fst x.snd.snd.snd x.fst y ∧ x.fst = y ∧ True)))
 (ifB
 (decide
 (((↑x.snd.fst : Int) + (↑x.snd.snd.snd : Int)) %
 (18446744073709551616 : Int) /
 (2 : Int) <
 ((↑x.snd.fst : Int) + (↑x.snd.snd.snd : Int)) %
 (18446744073709551616 : Int) /
 (2 : Int) +
 (↑x.snd.snd.fst : Int) -
 x_1.fst))
 (ifB
 (decide
 (((↑x.snd.fst : Int) + (↑x.snd.snd.snd : Int)) %
 (18446744073709551616 : Int) /
 (2 : Int) +
 (↑x.snd.snd.fst : Int) -
 x_1.fst <
 (↑x.snd.snd.snd : Int)))
 (∃ (x_2 : List En × Nat × Nat × Nat),
 x.fst.length = x_2.fst.length ∧
 ((↑x.snd.fst : Int) + (↑x.snd.snd.snd : Int)) %
 (18446744073709551616 : Int) /
 (2 : Int) =
 (↑x_2.snd.fst : Int) ∧
 ((↑x.snd.fst : Int) + (↑x.snd.snd.snd : Int)) %
 (18446744073709551616 : Int) /
 (2 : Int) +
 (↑x.snd.snd.fst : Int) -
 x_1.fst =
 (↑x_2.snd.snd.fst : Int) ∧
 (↑x.snd.snd.snd : Int) = (↑x_2.snd.snd.snd : Int) ∧
 x.fst = x_2.fst ∧
 (x_2.snd.fst < x_2.snd.snd.fst ∧
 x_2.snd.snd.fst < x_2.snd.snd.snd ∧
 x_2.snd.snd.snd ≤ x_2.fst.length ∧
 x_2.fst.length ≤ most ∧
 x_2.snd.snd.snd ≤ x_2.snd.fst + n ∧
 List.Pairwise
 (fun (a b : En) => key a ≤ key b)
 (mids x_2.fst x_2.snd.fst
 x_2.snd.snd.fst) ∧
 List.Pairwise
 (fun (a b : En) => key a ≤ key b)
 (mids x_2.fst x_2.snd.snd.fst
 x_2.snd.snd.snd)) ∧
 ∀ (y : List En),
 SSR key x_2.snd.fst x_2.snd.snd.snd x_2.fst y →
 ∃ (y_1 : List En),
 SSR key x.snd.fst x.snd.snd.snd x.fst y_1 ∧
 y = y_1 ∧ True)
 (∃ (y : List En),
 SSR key x.snd.fst x.snd.snd.snd x.fst y ∧ x.fst = y ∧ True))
 (∃ (y : List En),
 SSR key x.snd.fst x.snd.snd.snd x.fst y ∧ x.fst = y ∧ True))))
 (ifB (decide ((↑x.snd.fst : Int) < x_1.fst))
 (ifB
 (decide
 (x_1.fst <
 ((↑x.snd.fst : Int) + (↑x.snd.snd.snd : Int)) %
 (18446744073709551616 : Int) /
 (2 : Int)))
 (∃ (x_2 : List En × Nat × Nat × Nat),
 x.fst.length = x_2.fst.length ∧
 (↑x.snd.fst : Int) = (↑x_2.snd.fst : Int) ∧
 x_1.fst = (↑x_2.snd.snd.fst : Int) ∧
 ((↑x.snd.fst : Int) + (↑x.snd.snd.snd : Int)) %
 (18446744073709551616 : Int) /
 (2 : Int) =
 (↑x_2.snd.snd.snd : Int) ∧
 x.fst = x_2.fst ∧
 (x_2.snd.fst < x_2.snd.snd.fst ∧
 x_2.snd.snd.fst < x_2.snd.snd.snd ∧
 x_2.snd.snd.snd ≤ x_2.fst.length ∧
 x_2.fst.length ≤ most ∧
 x_2.snd.snd.snd ≤ x_2.snd.fst + n ∧
 List.Pairwise (fun (a b : En) => key a ≤ key b)
 (mids x_2.fst x_2.snd.fst x_2.snd.snd.fst) ∧
 List.Pairwise
 (fun (a b : En) => key a ≤ key b)
 (mids x_2.fst x_2.snd.snd.fst
 x_2.snd.snd.snd)) ∧
 ∀ (y : List En),
 SSR key x_2.snd.fst x_2.snd.snd.snd x_2.fst y →
 ifB
 (decide
 (((↑x.snd.fst : Int) + (↑x.snd.snd.snd : Int)) %
 (18446744073709551616 : Int) /
 (2 : Int) <
 ((↑x.snd.fst : Int) + (↑x.snd.snd.snd : Int)) %
 (18446744073709551616 : Int) /
 (2 : Int) +
 (↑x.snd.snd.fst : Int) -
 x_1.fst))
 (ifB
 (decide
 (((↑x.snd.fst : Int) + (↑x.snd.snd.snd : Int)) %
 (18446744073709551616 : Int) /
 (2 : Int) +
 (↑x.snd.snd.fst : Int) -
 x_1.fst <
 (↑x.snd.snd.snd : Int)))
 (∃ (x_3 : List En × Nat × Nat × Nat),
 x.fst.length = x_3.fst.length ∧
 ((↑x.snd.fst : Int) + (↑x.snd.snd.snd : Int)) %
 (18446744073709551616 : Int) /
 (2 : Int) =
 (↑x_3.snd.fst : Int) ∧
 ((↑x.snd.fst : Int) +
 (↑x.snd.snd.snd : Int)) %
 (18446744073709551616 : Int) /
 (2 : Int) +
 (↑x.snd.snd.fst : Int) -
 x_1.fst =
 (↑x_3.snd.snd.fst : Int) ∧
 (↑x.snd.snd.snd : Int) =
 (↑x_3.snd.snd.snd : Int) ∧
 y = x_3.fst ∧
 (x_3.snd.fst < x_3.snd.snd.fst ∧
 x_3.snd.snd.fst < x_3.snd.snd.snd ∧
 x_3.snd.snd.snd ≤ x_3.fst.length ∧
 x_3.fst.length ≤ most ∧
 x_3.snd.snd.snd ≤
 x_3.snd.fst + n ∧
 List.Pairwise
 (fun (a b : En) =>
 key a ≤ key b)
 (mids x_3.fst
 x_3.snd.fst
 x_3.snd.snd.fst) ∧
 List.Pairwise
 (fun (a b : En) =>
 key a ≤ key b)
 (mids x_3.fst
 x_3.snd.snd.fst
 x_3.snd.snd.snd)) ∧
 ∀ (y : List En),
 SSR key x_3.snd.fst x_3.snd.snd.snd
 x_3.fst y →
 ∃ (y_1 : List En),
 SSR key x.snd.fst x.snd.snd.snd
 x.fst y_1 ∧
 y = y_1 ∧ True)
 (∃ (y_1 : List En),
 SSR key x.snd.fst x.snd.snd.snd x.fst y_1 ∧
 y = y_1 ∧ True))
 (∃ (y_1 : List En),
 SSR key x.snd.fst x.snd.snd.snd x.fst y_1 ∧
 y = y_1 ∧ True))
 (ifB
 (decide
 (((↑x.snd.fst : Int) + (↑x.snd.snd.snd : Int)) %
 (18446744073709551616 : Int) /
 (2 : Int) <
 ((↑x.snd.fst : Int) + (↑x.snd.snd.snd : Int)) %
 (18446744073709551616 : Int) /
 (2 : Int) +
 (↑x.snd.snd.fst : Int) -
 x_1.fst))
 (ifB
 (decide
 (((↑x.snd.fst : Int) + (↑x.snd.snd.snd : Int)) %
 (18446744073709551616 : Int) /
 (2 : Int) +
 (↑x.snd.snd.fst : Int) -
 x_1.fst <
 (↑x.snd.snd.snd : Int)))
 (∃ (x_2 : List En × Nat × Nat × Nat),
 x.fst.length = x_2.fst.length ∧
 ((↑x.snd.fst : Int) + (↑x.snd.snd.snd : Int)) %
 (18446744073709551616 : Int) /
 (2 : Int) =
 (↑x_2.snd.fst : Int) ∧
 ((↑x.snd.fst : Int) + (↑x.snd.snd.snd : Int)) %
 (18446744073709551616 : Int) /
 (2 : Int) +
 (↑x.snd.snd.fst : Int) -
 x_1.fst =
 (↑x_2.snd.snd.fst : Int) ∧
 (↑x.snd.snd.snd : Int) = (↑x_2.snd.snd.snd : Int) ∧
 x.fst = x_2.fst ∧
 (x_2.snd.fst < x_2.snd.snd.fst ∧
 x_2.snd.snd.fst < x_2.snd.snd.snd ∧
 x_2.snd.snd.snd ≤ x_2.fst.length ∧
 x_2.fst.length ≤ most ∧
 x_2.snd.snd.snd ≤ x_2.snd.fst + n ∧
 List.Pairwise
 (fun (a b : En) => key a ≤ key b)
 (mids x_2.fst x_2.snd.fst
 x_2.snd.snd.fst) ∧
 List.Pairwise
 (fun (a b : En) => key a ≤ key b)
 (mids x_2.fst x_2.snd.snd.fst
 x_2.snd.snd.snd)) ∧
 ∀ (y : List En),
 SSR key x_2.snd.fst x_2.snd.snd.snd x_2.fst y →
 ∃ (y_1 : List En),
 SSR key x.snd.fst x.snd.snd.snd x.fst y_1 ∧
 y = y_1 ∧ True)
 (∃ (y : List En),
 SSR key x.snd.fst x.snd.snd.snd x.fst y ∧ x.fst = y ∧ True))
 (∃ (y : List En),
 SSR key x.snd.fst x.snd.snd.snd x.fst y ∧ x.fst = y ∧ True)))
 (ifB
 (decide
 (((↑x.snd.fst : Int) + (↑x.snd.snd.snd : Int)) %
 (18446744073709551616 : Int) /
 (2 : Int) <
 ((↑x.snd.fst : Int) + (↑x.snd.snd.snd : Int)) %
 (18446744073709551616 : Int) /
 (2 : Int) +
 (↑x.snd.snd.fst : Int) -
 x_1.fst))
 (ifB
 (decide
 (((↑x.snd.fst : Int) + (↑x.snd.snd.snd : Int)) %
 (18446744073709551616 : Int) /
 (2 : Int) +
 (↑x.snd.snd.fst : Int) -
 x_1.fst <
 (↑x.snd.snd.snd : Int)))
 (∃ (x_2 : List En × Nat × Nat × Nat),
 x.fst.length = x_2.fst.length ∧
 ((↑x.snd.fst : Int) + (↑x.snd.snd.snd : Int)) %
 (18446744073709551616 : Int) /
 (2 : Int) =
 (↑x_2.snd.fst : Int) ∧
 ((↑x.snd.fst : Int) + (↑x.snd.snd.snd : Int)) %
 (18446744073709551616 : Int) /
 (2 : Int) +
 (↑x.snd.snd.fst : Int) -
 x_1.fst =
 (↑x_2.snd.snd.fst : Int) ∧
 (↑x.snd.snd.snd : Int) = (↑x_2.snd.snd.snd : Int) ∧
 x.fst = x_2.fst ∧
 (x_2.snd.fst < x_2.snd.snd.fst ∧
 x_2.snd.snd.fst < x_2.snd.snd.snd ∧
 x_2.snd.snd.snd ≤ x_2.fst.length ∧
 x_2.fst.length ≤ most ∧
 x_2.snd.snd.snd ≤ x_2.snd.fst + n ∧
 List.Pairwise
 (fun (a b : En) => key a ≤ key b)
 (mids x_2.fst x_2.snd.fst x_2.snd.snd.fst) ∧
 List.Pairwise
 (fun (a b : En) => key a ≤ key b)
 (mids x_2.fst x_2.snd.snd.fst
 x_2.snd.snd.snd)) ∧
 ∀ (y : List En),
 SSR key x_2.snd.fst x_2.snd.snd.snd x_2.fst y →
 ∃ (y_1 : List En),
 SSR key x.snd.fst x.snd.snd.snd x.fst y_1 ∧
 y = y_1 ∧ True)
 (∃ (y : List En),
 SSR key x.snd.fst x.snd.snd.snd x.fst y ∧ x.fst = y ∧ True))
 (∃ (y : List En),
 SSR key x.snd.fst x.snd.snd.snd x.fst y ∧ x.fst = y ∧ True)))))
 (((-9223372036854775808 : Int) ≤
 ((↑x.snd.fst : Int) + (↑x.snd.snd.snd : Int)) % (18446744073709551616 : Int) / (2 : Int) +
 (↑x.snd.snd.fst : Int) -
 (1 : Int) ∧
 ((↑x.snd.fst : Int) + (↑x.snd.snd.snd : Int)) % (18446744073709551616 : Int) / (2 : Int) +
 (↑x.snd.snd.fst : Int) -
 (1 : Int) ≤
 (9223372036854775807 : Int)) ∧
 ∃ (I : Int × Int → Prop),
 ∃ (μ : Int × Int → Nat),
 (∃ (x_1 : Int × Int),
 I x_1 ∧ (↑x.snd.fst : Int) = x_1.fst ∧ (↑x.snd.snd.fst : Int) = x_1.snd ∧ True) ∧
 ∀ (x_1 : Int × Int),
 I x_1 →
 ifB (decide (x_1.fst < x_1.snd))
 (((-9223372036854775808 : Int) ≤ x_1.fst + x_1.snd ∧
 x_1.fst + x_1.snd ≤ (9223372036854775807 : Int)) ∧
 (0 : Int) ≤ (1 : Int) ∧
 ((-9223372036854775808 : Int) ≤
 (x_1.fst + x_1.snd) % (18446744073709551616 : Int) / (2 : Int) ∧
 (x_1.fst + x_1.snd) % (18446744073709551616 : Int) / (2 : Int) ≤
 (9223372036854775807 : Int)) ∧
 ((-9223372036854775808 : Int) ≤
 ((↑x.snd.fst : Int) + (↑x.snd.snd.snd : Int)) %
 (18446744073709551616 : Int) /
 (2 : Int) +
 (↑x.snd.snd.fst : Int) -
 (1 : Int) -
 (x_1.fst + x_1.snd) % (18446744073709551616 : Int) / (2 : Int) ∧
 ((↑x.snd.fst : Int) + (↑x.snd.snd.snd : Int)) %
 (18446744073709551616 : Int) /
 (2 : Int) +
 (↑x.snd.snd.fst : Int) -
 (1 : Int) -
 (x_1.fst + x_1.snd) % (18446744073709551616 : Int) / (2 : Int) ≤
 (9223372036854775807 : Int)) ∧
 ((0 : Int) ≤
 ((↑x.snd.fst : Int) + (↑x.snd.snd.snd : Int)) %
 (18446744073709551616 : Int) /
 (2 : Int) +
 (↑x.snd.snd.fst : Int) -
 (1 : Int) -
 (x_1.fst + x_1.snd) % (18446744073709551616 : Int) / (2 : Int) ∧
 ((↑x.snd.fst : Int) + (↑x.snd.snd.snd : Int)) %
 (18446744073709551616 : Int) /
 (2 : Int) +
 (↑x.snd.snd.fst : Int) -
 (1 : Int) -
 (x_1.fst + x_1.snd) % (18446744073709551616 : Int) / (2 : Int) <
 (↑x.fst.length : Int)) ∧
 ((0 : Int) ≤
 (x_1.fst + x_1.snd) % (18446744073709551616 : Int) / (2 : Int) ∧
 (x_1.fst + x_1.snd) % (18446744073709551616 : Int) / (2 : Int) <
 (↑x.fst.length : Int)) ∧
 ∃ (x_2 : En × En),
 (x.fst.getD
 (((↑x.snd.fst : Int) + (↑x.snd.snd.snd : Int)) %
 (18446744073709551616 : Int) /
 (2 : Int) +
 (↑x.snd.snd.fst : Int) -
 (1 : Int) -
 (x_1.fst + x_1.snd) % (18446744073709551616 : Int) /
 (2 : Int)).toNat
 ((0 : Int), (0 : Int))).fst =
 x_2.fst.fst ∧
 (x.fst.getD
 (((↑x.snd.fst : Int) + (↑x.snd.snd.snd : Int)) %
 (18446744073709551616 : Int) /
 (2 : Int) +
 (↑x.snd.snd.fst : Int) -
 (1 : Int) -
 (x_1.fst + x_1.snd) % (18446744073709551616 : Int) /
 (2 : Int)).toNat
 ((0 : Int), (0 : Int))).snd =
 x_2.fst.snd ∧
 (x.fst.getD
 ((x_1.fst + x_1.snd) % (18446744073709551616 : Int) /
 (2 : Int)).toNat
 ((0 : Int), (0 : Int))).fst =
 x_2.snd.fst ∧
 (x.fst.getD
 ((x_1.fst + x_1.snd) % (18446744073709551616 : Int) /
 (2 : Int)).toNat
 ((0 : Int), (0 : Int))).snd =
 x_2.snd.snd ∧
 True ∧
 ∀ (y : Unit),
 True →
 ifB (!decide (cmpK key x_2.fst x_2.snd < (0 : Int)))
 (((-9223372036854775808 : Int) ≤
 (x_1.fst + x_1.snd) %
 (18446744073709551616 : Int) /
 (2 : Int) +
 (1 : Int) ∧
 (x_1.fst + x_1.snd) %
 (18446744073709551616 : Int) /
 (2 : Int) +
 (1 : Int) ≤
 (9223372036854775807 : Int)) ∧
 ∃ (y : Int × Int),
 I y ∧
 μ y < μ x_1 ∧
 (x_1.fst + x_1.snd) %
 (18446744073709551616 : Int) /
 (2 : Int) +
 (1 : Int) =
 y.fst ∧
 x_1.snd = y.snd ∧ True)
 (∃ (y : Int × Int),
 I y ∧
 μ y < μ x_1 ∧
 x_1.fst = y.fst ∧
 (x_1.fst + x_1.snd) %
 (18446744073709551616 : Int) /
 (2 : Int) =
 y.snd ∧
 True))
 (((-9223372036854775808 : Int) ≤
 ((↑x.snd.fst : Int) + (↑x.snd.snd.snd : Int)) % (18446744073709551616 : Int) /
 (2 : Int) +
 (↑x.snd.snd.fst : Int) -
 x_1.fst ∧
 ((↑x.snd.fst : Int) + (↑x.snd.snd.snd : Int)) % (18446744073709551616 : Int) /
 (2 : Int) +
 (↑x.snd.snd.fst : Int) -
 x_1.fst ≤
 (9223372036854775807 : Int)) ∧
 ifB (decide (x_1.fst < (↑x.snd.snd.fst : Int)))
 (ifB
 (decide
 ((↑x.snd.snd.fst : Int) <
 ((↑x.snd.fst : Int) + (↑x.snd.snd.snd : Int)) %
 (18446744073709551616 : Int) /
 (2 : Int) +
 (↑x.snd.snd.fst : Int) -
 x_1.fst))
 (∃ (x_2 : List En × Nat × Nat × Nat),
 x.fst.length = x_2.fst.length ∧
 x_1.fst = (↑x_2.snd.fst : Int) ∧
 (↑x.snd.snd.fst : Int) = (↑x_2.snd.snd.fst : Int) ∧
 ((↑x.snd.fst : Int) + (↑x.snd.snd.snd : Int)) %
 (18446744073709551616 : Int) /
 (2 : Int) +
 (↑x.snd.snd.fst : Int) -
 x_1.fst =
 (↑x_2.snd.snd.snd : Int) ∧
 x.fst = x_2.fst ∧
 (x_2.snd.fst < x_2.snd.snd.fst ∧
 x_2.snd.snd.fst < x_2.snd.snd.snd ∧
 x_2.snd.snd.snd ≤ x_2.fst.length ∧ x_2.fst.length ≤ most) ∧
 ∀ (y : List En),
 y = rotL x_2.fst x_2.snd.fst x_2.snd.snd.fst x_2.snd.snd.snd →
 ifB (decide ((↑x.snd.fst : Int) < x_1.fst))
 (ifB
 (decide
 (x_1.fst <
 ((↑x.snd.fst : Int) + (↑x.snd.snd.snd : Int)) %
 (18446744073709551616 : Int) /
 (2 : Int)))
 (∃ (x_3 : List En × Nat × Nat × Nat),
 x.fst.length = x_3.fst.length ∧
 (↑x.snd.fst : Int) = (↑x_3.snd.fst : Int) ∧
 x_1.fst = (↑x_3.snd.snd.fst : Int) ∧
 ((↑x.snd.fst : Int) + (↑x.snd.snd.snd : Int)) %
 (18446744073709551616 : Int) /
 (2 : Int) =
 (↑x_3.snd.snd.snd : Int) ∧
 y = x_3.fst ∧
 (x_3.snd.fst < x_3.snd.snd.fst ∧
 x_3.snd.snd.fst < x_3.snd.snd.snd ∧
 x_3.snd.snd.snd ≤ x_3.fst.length ∧
 x_3.fst.length ≤ most ∧
 x_3.snd.snd.snd ≤
 x_3.snd.fst + n ∧
 List.Pairwise
 (fun (a b : En) =>
 key a ≤ key b)
 (mids x_3.fst x_3.snd.fst
 x_3.snd.snd.fst) ∧
 List.Pairwise
 (fun (a b : En) =>
 key a ≤ key b)
 (mids x_3.fst
 x_3.snd.snd.fst
 x_3.snd.snd.snd)) ∧
 ∀ (y : List En),
 SSR key x_3.snd.fst x_3.snd.snd.snd
 x_3.fst y →
 ifB
 (decide
 (((↑x.snd.fst : Int) +
 (↑x.snd.snd.snd : Int)) %
 (18446744073709551616 :
 Int) /
 (2 : Int) <
 ((↑x.snd.fst : Int) +
 (↑x.snd.snd.snd :
 Int)) %
 (18446744073709551616 :
 Int) /
 (2 : Int) +
 (↑x.snd.snd.fst : Int) -
 x_1.fst))
 (ifB
 (decide
 (((↑x.snd.fst : Int) +
 (↑x.snd.snd.snd :
 Int)) %
 (18446744073709551616 :
 Int) /
 (2 : Int) +
 (↑x.snd.snd.fst : Int) -
 x_1.fst <
 (↑x.snd.snd.snd : Int)))
 (∃ (x_4 :
 List En × Nat × Nat × Nat),
 x.fst.length = x_4.fst.length ∧
 ((↑x.snd.fst : Int) +
 (↑x.snd.snd.snd :
 Int)) %
 (18446744073709551616 :
 Int) /
 (2 : Int) =
 (↑x_4.snd.fst : Int) ∧
 ((↑x.snd.fst : Int) +
 (↑x.snd.snd.snd :
 Int)) %
 (18446744073709551616 :
 Int) /
 (2 : Int) +
 (↑x.snd.snd.fst :
 Int) -
 x_1.fst =
 (↑x_4.snd.snd.fst :
 Int) ∧
 (↑x.snd.snd.snd : Int) =
 (↑x_4.snd.snd.snd :
 Int) ∧
 y = x_4.fst ∧
 (x_4.snd.fst <
 x_4.snd.snd.fst ∧
 x_4.snd.snd.fst <
 x_4.snd.snd.snd ∧
 x_4.snd.snd.snd ≤
 x_4.fst.length ∧
 x_4.fst.length ≤
 most ∧
 x_4.snd.snd.snd ≤
 x_4.snd.fst +
 n ∧
 List.Pairwise
 (fun
 (a
 b :
 En) =>
 key
 a ≤
 key
 b)
 (mids
 x_4.fst
 x_4.snd.fst
 x_4.snd.snd.fst) ∧
 List.Pairwise
 (fun
 (a
 b :
 En) =>
 key
 a ≤
 key
 b)
 (mids
 x_4.fst
 x_4.snd.snd.fst
 x_4.snd.snd.snd)) ∧
 ∀ (y : List En),
 SSR key
 x_4.snd.fst
 x_4.snd.snd.snd
 x_4.fst y →
 ∃ (y_1 :
 List En),
 SSR key
 x.snd.fst
 x.snd.snd.snd
 x.fst
 y_1 ∧
 y = y_1 ∧
 True)
 (∃ (y_1 : List En),
 SSR key x.snd.fst x.snd.snd.snd
 x.fst y_1 ∧
 y = y_1 ∧ True))
 (∃ (y_1 : List En),
 SSR key x.snd.fst x.snd.snd.snd
 x.fst y_1 ∧
 y = y_1 ∧ True))
 (ifB
 (decide
 (((↑x.snd.fst : Int) + (↑x.snd.snd.snd : Int)) %
 (18446744073709551616 : Int) /
 (2 : Int) <
 ((↑x.snd.fst : Int) + (↑x.snd.snd.snd : Int)) %
 (18446744073709551616 : Int) /
 (2 : Int) +
 (↑x.snd.snd.fst : Int) -
 x_1.fst))
 (ifB
 (decide
 (((↑x.snd.fst : Int) + (↑x.snd.snd.snd : Int)) %
 (18446744073709551616 : Int) /
 (2 : Int) +
 (↑x.snd.snd.fst : Int) -
 x_1.fst <
 (↑x.snd.snd.snd : Int)))
 (∃ (x_3 : List En × Nat × Nat × Nat),
 x.fst.length = x_3.fst.length ∧
 ((↑x.snd.fst : Int) + (↑x.snd.snd.snd : Int)) %
 (18446744073709551616 : Int) /
 (2 : Int) =
 (↑x_3.snd.fst : Int) ∧
 ((↑x.snd.fst : Int) +
 (↑x.snd.snd.snd : Int)) %
 (18446744073709551616 : Int) /
 (2 : Int) +
 (↑x.snd.snd.fst : Int) -
 x_1.fst =
 (↑x_3.snd.snd.fst : Int) ∧
 (↑x.snd.snd.snd : Int) =
 (↑x_3.snd.snd.snd : Int) ∧
 y = x_3.fst ∧
 (x_3.snd.fst < x_3.snd.snd.fst ∧
 x_3.snd.snd.fst < x_3.snd.snd.snd ∧
 x_3.snd.snd.snd ≤ x_3.fst.length ∧
 x_3.fst.length ≤ most ∧
 x_3.snd.snd.snd ≤
 x_3.snd.fst + n ∧
 List.Pairwise
 (fun (a b : En) =>
 key a ≤ key b)
 (mids x_3.fst
 x_3.snd.fst
 x_3.snd.snd.fst) ∧
 List.Pairwise
 (fun (a b : En) =>
 key a ≤ key b)
 (mids x_3.fst
 x_3.snd.snd.fst
 x_3.snd.snd.snd)) ∧
 ∀ (y : List En),
 SSR key x_3.snd.fst x_3.snd.snd.snd
 x_3.fst y →
 ∃ (y_1 : List En),
 SSR key x.snd.fst x.snd.snd.snd
 x.fst y_1 ∧
 y = y_1 ∧ True)
 (∃ (y_1 : List En),
 SSR key x.snd.fst x.snd.snd.snd x.fst y_1 ∧
 y = y_1 ∧ True))
 (∃ (y_1 : List En),
 SSR key x.snd.fst x.snd.snd.snd x.fst y_1 ∧
 y = y_1 ∧ True)))
 (ifB
 (decide
 (((↑x.snd.fst : Int) + (↑x.snd.snd.snd : Int)) %
 (18446744073709551616 : Int) /
 (2 : Int) <
 ((↑x.snd.fst : Int) + (↑x.snd.snd.snd : Int)) %
 (18446744073709551616 : Int) /
 (2 : Int) +
 (↑x.snd.snd.fst : Int) -
 x_1.fst))
 (ifB
 (decide
 (((↑x.snd.fst : Int) + (↑x.snd.snd.snd : Int)) %
 (18446744073709551616 : Int) /
 (2 : Int) +
 (↑x.snd.snd.fst : Int) -
 x_1.fst <
 (↑x.snd.snd.snd : Int)))
 (∃ (x_3 : List En × Nat × Nat × Nat),
 x.fst.length = x_3.fst.length ∧
 ((↑x.snd.fst : Int) + (↑x.snd.snd.snd : Int)) %
 (18446744073709551616 : Int) /
 (2 : Int) =
 (↑x_3.snd.fst : Int) ∧
 ((↑x.snd.fst : Int) + (↑x.snd.snd.snd : Int)) %
 (18446744073709551616 : Int) /
 (2 : Int) +
 (↑x.snd.snd.fst : Int) -
 x_1.fst =
 (↑x_3.snd.snd.fst : Int) ∧
 (↑x.snd.snd.snd : Int) =
 (↑x_3.snd.snd.snd : Int) ∧
 y = x_3.fst ∧
 (x_3.snd.fst < x_3.snd.snd.fst ∧
 x_3.snd.snd.fst < x_3.snd.snd.snd ∧
 x_3.snd.snd.snd ≤ x_3.fst.length ∧
 x_3.fst.length ≤ most ∧
 x_3.snd.snd.snd ≤
 x_3.snd.fst + n ∧
 List.Pairwise
 (fun (a b : En) =>
 key a ≤ key b)
 (mids x_3.fst x_3.snd.fst
 x_3.snd.snd.fst) ∧
 List.Pairwise
 (fun (a b : En) =>
 key a ≤ key b)
 (mids x_3.fst
 x_3.snd.snd.fst
 x_3.snd.snd.snd)) ∧
 ∀ (y : List En),
 SSR key x_3.snd.fst x_3.snd.snd.snd
 x_3.fst y →
 ∃ (y_1 : List En),
 SSR key x.snd.fst x.snd.snd.snd
 x.fst y_1 ∧
 y = y_1 ∧ True)
 (∃ (y_1 : List En),
 SSR key x.snd.fst x.snd.snd.snd x.fst y_1 ∧
 y = y_1 ∧ True))
 (∃ (y_1 : List En),
 SSR key x.snd.fst x.snd.snd.snd x.fst y_1 ∧
 y = y_1 ∧ True)))
 (ifB (decide ((↑x.snd.fst : Int) < x_1.fst))
 (ifB
 (decide
 (x_1.fst <
 ((↑x.snd.fst : Int) + (↑x.snd.snd.snd : Int)) %
 (18446744073709551616 : Int) /
 (2 : Int)))
 (∃ (x_2 : List En × Nat × Nat × Nat),
 x.fst.length = x_2.fst.length ∧
 (↑x.snd.fst : Int) = (↑x_2.snd.fst : Int) ∧
 x_1.fst = (↑x_2.snd.snd.fst : Int) ∧
 ((↑x.snd.fst : Int) + (↑x.snd.snd.snd : Int)) %
 (18446744073709551616 : Int) /
 (2 : Int) =
 (↑x_2.snd.snd.snd : Int) ∧
 x.fst = x_2.fst ∧
 (x_2.snd.fst < x_2.snd.snd.fst ∧
 x_2.snd.snd.fst < x_2.snd.snd.snd ∧
 x_2.snd.snd.snd ≤ x_2.fst.length ∧
 x_2.fst.length ≤ most ∧
 x_2.snd.snd.snd ≤ x_2.snd.fst + n ∧
 List.Pairwise (fun (a b : En) => key a ≤ key b)
 (mids x_2.fst x_2.snd.fst x_2.snd.snd.fst) ∧
 List.Pairwise
 (fun (a b : En) => key a ≤ key b)
 (mids x_2.fst x_2.snd.snd.fst
 x_2.snd.snd.snd)) ∧
 ∀ (y : List En),
 SSR key x_2.snd.fst x_2.snd.snd.snd x_2.fst y →
 ifB
 (decide
 (((↑x.snd.fst : Int) + (↑x.snd.snd.snd : Int)) %
 (18446744073709551616 : Int) /
 (2 : Int) <
 ((↑x.snd.fst : Int) + (↑x.snd.snd.snd : Int)) %
 (18446744073709551616 : Int) /
 (2 : Int) +
 (↑x.snd.snd.fst : Int) -
 x_1.fst))
 (ifB
 (decide
 (((↑x.snd.fst : Int) + (↑x.snd.snd.snd : Int)) %
 (18446744073709551616 : Int) /
 (2 : Int) +
 (↑x.snd.snd.fst : Int) -
 x_1.fst <
 (↑x.snd.snd.snd : Int)))
 (∃ (x_3 : List En × Nat × Nat × Nat),
 x.fst.length = x_3.fst.length ∧
 ((↑x.snd.fst : Int) + (↑x.snd.snd.snd : Int)) %
 (18446744073709551616 : Int) /
 (2 : Int) =
 (↑x_3.snd.fst : Int) ∧
 ((↑x.snd.fst : Int) +
 (↑x.snd.snd.snd : Int)) %
 (18446744073709551616 : Int) /
 (2 : Int) +
 (↑x.snd.snd.fst : Int) -
 x_1.fst =
 (↑x_3.snd.snd.fst : Int) ∧
 (↑x.snd.snd.snd : Int) =
 (↑x_3.snd.snd.snd : Int) ∧
 y = x_3.fst ∧
 (x_3.snd.fst < x_3.snd.snd.fst ∧
 x_3.snd.snd.fst < x_3.snd.snd.snd ∧
 x_3.snd.snd.snd ≤ x_3.fst.length ∧
 x_3.fst.length ≤ most ∧
 x_3.snd.snd.snd ≤
 x_3.snd.fst + n ∧
 List.Pairwise
 (fun (a b : En) =>
 key a ≤ key b)
 (mids x_3.fst
 x_3.snd.fst
 x_3.snd.snd.fst) ∧
 List.Pairwise
 (fun (a b : En) =>
 key a ≤ key b)
 (mids x_3.fst
 x_3.snd.snd.fst
 x_3.snd.snd.snd)) ∧
 ∀ (y : List En),
 SSR key x_3.snd.fst x_3.snd.snd.snd
 x_3.fst y →
 ∃ (y_1 : List En),
 SSR key x.snd.fst x.snd.snd.snd
 x.fst y_1 ∧
 y = y_1 ∧ True)
 (∃ (y_1 : List En),
 SSR key x.snd.fst x.snd.snd.snd x.fst y_1 ∧
 y = y_1 ∧ True))
 (∃ (y_1 : List En),
 SSR key x.snd.fst x.snd.snd.snd x.fst y_1 ∧
 y = y_1 ∧ True))
 (ifB
 (decide
 (((↑x.snd.fst : Int) + (↑x.snd.snd.snd : Int)) %
 (18446744073709551616 : Int) /
 (2 : Int) <
 ((↑x.snd.fst : Int) + (↑x.snd.snd.snd : Int)) %
 (18446744073709551616 : Int) /
 (2 : Int) +
 (↑x.snd.snd.fst : Int) -
 x_1.fst))
 (ifB
 (decide
 (((↑x.snd.fst : Int) + (↑x.snd.snd.snd : Int)) %
 (18446744073709551616 : Int) /
 (2 : Int) +
 (↑x.snd.snd.fst : Int) -
 x_1.fst <
 (↑x.snd.snd.snd : Int)))
 (∃ (x_2 : List En × Nat × Nat × Nat),
 x.fst.length = x_2.fst.length ∧
 ((↑x.snd.fst : Int) + (↑x.snd.snd.snd : Int)) %
 (18446744073709551616 : Int) /
 (2 : Int) =
 (↑x_2.snd.fst : Int) ∧
 ((↑x.snd.fst : Int) + (↑x.snd.snd.snd : Int)) %
 (18446744073709551616 : Int) /
 (2 : Int) +
 (↑x.snd.snd.fst : Int) -
 x_1.fst =
 (↑x_2.snd.snd.fst : Int) ∧
 (↑x.snd.snd.snd : Int) = (↑x_2.snd.snd.snd : Int) ∧
 x.fst = x_2.fst ∧
 (x_2.snd.fst < x_2.snd.snd.fst ∧
 x_2.snd.snd.fst < x_2.snd.snd.snd ∧
 x_2.snd.snd.snd ≤ x_2.fst.length ∧
 x_2.fst.length ≤ most ∧
 x_2.snd.snd.snd ≤ x_2.snd.fst + n ∧
 List.Pairwise
 (fun (a b : En) => key a ≤ key b)
 (mids x_2.fst x_2.snd.fst
 x_2.snd.snd.fst) ∧
 List.Pairwise
 (fun (a b : En) => key a ≤ key b)
 (mids x_2.fst x_2.snd.snd.fst
 x_2.snd.snd.snd)) ∧
 ∀ (y : List En),
 SSR key x_2.snd.fst x_2.snd.snd.snd x_2.fst y →
 ∃ (y_1 : List En),
 SSR key x.snd.fst x.snd.snd.snd x.fst y_1 ∧
 y = y_1 ∧ True)
 (∃ (y : List En),
 SSR key x.snd.fst x.snd.snd.snd x.fst y ∧ x.fst = y ∧ True))
 (∃ (y : List En),
 SSR key x.snd.fst x.snd.snd.snd x.fst y ∧ x.fst = y ∧ True)))
 (ifB
 (decide
 (((↑x.snd.fst : Int) + (↑x.snd.snd.snd : Int)) %
 (18446744073709551616 : Int) /
 (2 : Int) <
 ((↑x.snd.fst : Int) + (↑x.snd.snd.snd : Int)) %
 (18446744073709551616 : Int) /
 (2 : Int) +
 (↑x.snd.snd.fst : Int) -
 x_1.fst))
 (ifB
 (decide
 (((↑x.snd.fst : Int) + (↑x.snd.snd.snd : Int)) %
 (18446744073709551616 : Int) /
 (2 : Int) +
 (↑x.snd.snd.fst : Int) -
 x_1.fst <
 (↑x.snd.snd.snd : Int)))
 (∃ (x_2 : List En × Nat × Nat × Nat),
 x.fst.length = x_2.fst.length ∧
 ((↑x.snd.fst : Int) + (↑x.snd.snd.snd : Int)) %
 (18446744073709551616 : Int) /
 (2 : Int) =
 (↑x_2.snd.fst : Int) ∧
 ((↑x.snd.fst : Int) + (↑x.snd.snd.snd : Int)) %
 (18446744073709551616 : Int) /
 (2 : Int) +
 (↑x.snd.snd.fst : Int) -
 x_1.fst =
 (↑x_2.snd.snd.fst : Int) ∧
 (↑x.snd.snd.snd : Int) = (↑x_2.snd.snd.snd : Int) ∧
 x.fst = x_2.fst ∧
 (x_2.snd.fst < x_2.snd.snd.fst ∧
 x_2.snd.snd.fst < x_2.snd.snd.snd ∧
 x_2.snd.snd.snd ≤ x_2.fst.length ∧
 x_2.fst.length ≤ most ∧
 x_2.snd.snd.snd ≤ x_2.snd.fst + n ∧
 List.Pairwise
 (fun (a b : En) => key a ≤ key b)
 (mids x_2.fst x_2.snd.fst x_2.snd.snd.fst) ∧
 List.Pairwise
 (fun (a b : En) => key a ≤ key b)
 (mids x_2.fst x_2.snd.snd.fst
 x_2.snd.snd.snd)) ∧
 ∀ (y : List En),
 SSR key x_2.snd.fst x_2.snd.snd.snd x_2.fst y →
 ∃ (y_1 : List En),
 SSR key x.snd.fst x.snd.snd.snd x.fst y_1 ∧
 y = y_1 ∧ True)
 (∃ (y : List En),
 SSR key x.snd.fst x.snd.snd.snd x.fst y ∧ x.fst = y ∧ True))
 (∃ (y : List En),
 SSR key x.snd.fst x.snd.snd.snd x.fst y ∧ x.fst = y ∧ True))))
 (ifB (decide ((↑x.snd.fst : Int) < x_1.fst))
 (ifB
 (decide
 (x_1.fst <
 ((↑x.snd.fst : Int) + (↑x.snd.snd.snd : Int)) %
 (18446744073709551616 : Int) /
 (2 : Int)))
 (∃ (x_2 : List En × Nat × Nat × Nat),
 x.fst.length = x_2.fst.length ∧
 (↑x.snd.fst : Int) = (↑x_2.snd.fst : Int) ∧
 x_1.fst = (↑x_2.snd.snd.fst : Int) ∧
 ((↑x.snd.fst : Int) + (↑x.snd.snd.snd : Int)) %
 (18446744073709551616 : Int) /
 (2 : Int) =
 (↑x_2.snd.snd.snd : Int) ∧
 x.fst = x_2.fst ∧
 (x_2.snd.fst < x_2.snd.snd.fst ∧
 x_2.snd.snd.fst < x_2.snd.snd.snd ∧
 x_2.snd.snd.snd ≤ x_2.fst.length ∧
 x_2.fst.length ≤ most ∧
 x_2.snd.snd.snd ≤ x_2.snd.fst + n ∧
 List.Pairwise (fun (a b : En) => key a ≤ key b)
 (mids x_2.fst x_2.snd.fst x_2.snd.snd.fst) ∧
 List.Pairwise (fun (a b : En) => key a ≤ key b)
 (mids x_2.fst x_2.snd.snd.fst
 x_2.snd.snd.snd)) ∧
 ∀ (y : List En),
 SSR key x_2.snd.fst x_2.snd.snd.snd x_2.fst y →
 ifB
 (decide
 (((↑x.snd.fst : Int) + (↑x.snd.snd.snd : Int)) %
 (18446744073709551616 : Int) /
 (2 : Int) <
 ((↑x.snd.fst : Int) + (↑x.snd.snd.snd : Int)) %
 (18446744073709551616 : Int) /
 (2 : Int) +
 (↑x.snd.snd.fst : Int) -
 x_1.fst))
 (ifB
 (decide
 (((↑x.snd.fst : Int) + (↑x.snd.snd.snd : Int)) %
 (18446744073709551616 : Int) /
 (2 : Int) +
 (↑x.snd.snd.fst : Int) -
 x_1.fst <
 (↑x.snd.snd.snd : Int)))
 (∃ (x_3 : List En × Nat × Nat × Nat),
 x.fst.length = x_3.fst.length ∧
 ((↑x.snd.fst : Int) + (↑x.snd.snd.snd : Int)) %
 (18446744073709551616 : Int) /
 (2 : Int) =
 (↑x_3.snd.fst : Int) ∧
 ((↑x.snd.fst : Int) + (↑x.snd.snd.snd : Int)) %
 (18446744073709551616 : Int) /
 (2 : Int) +
 (↑x.snd.snd.fst : Int) -
 x_1.fst =
 (↑x_3.snd.snd.fst : Int) ∧
 (↑x.snd.snd.snd : Int) =
 (↑x_3.snd.snd.snd : Int) ∧
 y = x_3.fst ∧
 (x_3.snd.fst < x_3.snd.snd.fst ∧
 x_3.snd.snd.fst < x_3.snd.snd.snd ∧
 x_3.snd.snd.snd ≤ x_3.fst.length ∧
 x_3.fst.length ≤ most ∧
 x_3.snd.snd.snd ≤
 x_3.snd.fst + n ∧
 List.Pairwise
 (fun (a b : En) =>
 key a ≤ key b)
 (mids x_3.fst x_3.snd.fst
 x_3.snd.snd.fst) ∧
 List.Pairwise
 (fun (a b : En) =>
 key a ≤ key b)
 (mids x_3.fst
 x_3.snd.snd.fst
 x_3.snd.snd.snd)) ∧
 ∀ (y : List En),
 SSR key x_3.snd.fst x_3.snd.snd.snd
 x_3.fst y →
 ∃ (y_1 : List En),
 SSR key x.snd.fst x.snd.snd.snd
 x.fst y_1 ∧
 y = y_1 ∧ True)
 (∃ (y_1 : List En),
 SSR key x.snd.fst x.snd.snd.snd x.fst y_1 ∧
 y = y_1 ∧ True))
 (∃ (y_1 : List En),
 SSR key x.snd.fst x.snd.snd.snd x.fst y_1 ∧
 y = y_1 ∧ True))
 (ifB
 (decide
 (((↑x.snd.fst : Int) + (↑x.snd.snd.snd : Int)) %
 (18446744073709551616 : Int) /
 (2 : Int) <
 ((↑x.snd.fst : Int) + (↑x.snd.snd.snd : Int)) %
 (18446744073709551616 : Int) /
 (2 : Int) +
 (↑x.snd.snd.fst : Int) -
 x_1.fst))
 (ifB
 (decide
 (((↑x.snd.fst : Int) + (↑x.snd.snd.snd : Int)) %
 (18446744073709551616 : Int) /
 (2 : Int) +
 (↑x.snd.snd.fst : Int) -
 x_1.fst <
 (↑x.snd.snd.snd : Int)))
 (∃ (x_2 : List En × Nat × Nat × Nat),
 x.fst.length = x_2.fst.length ∧
 ((↑x.snd.fst : Int) + (↑x.snd.snd.snd : Int)) %
 (18446744073709551616 : Int) /
 (2 : Int) =
 (↑x_2.snd.fst : Int) ∧
 ((↑x.snd.fst : Int) + (↑x.snd.snd.snd : Int)) %
 (18446744073709551616 : Int) /
 (2 : Int) +
 (↑x.snd.snd.fst : Int) -
 x_1.fst =
 (↑x_2.snd.snd.fst : Int) ∧
 (↑x.snd.snd.snd : Int) = (↑x_2.snd.snd.snd : Int) ∧
 x.fst = x_2.fst ∧
 (x_2.snd.fst < x_2.snd.snd.fst ∧
 x_2.snd.snd.fst < x_2.snd.snd.snd ∧
 x_2.snd.snd.snd ≤ x_2.fst.length ∧
 x_2.fst.length ≤ most ∧
 x_2.snd.snd.snd ≤ x_2.snd.fst + n ∧
 List.Pairwise
 (fun (a b : En) => key a ≤ key b)
 (mids x_2.fst x_2.snd.fst x_2.snd.snd.fst) ∧
 List.Pairwise
 (fun (a b : En) => key a ≤ key b)
 (mids x_2.fst x_2.snd.snd.fst
 x_2.snd.snd.snd)) ∧
 ∀ (y : List En),
 SSR key x_2.snd.fst x_2.snd.snd.snd x_2.fst y →
 ∃ (y_1 : List En),
 SSR key x.snd.fst x.snd.snd.snd x.fst y_1 ∧
 y = y_1 ∧ True)
 (∃ (y : List En),
 SSR key x.snd.fst x.snd.snd.snd x.fst y ∧ x.fst = y ∧ True))
 (∃ (y : List En),
 SSR key x.snd.fst x.snd.snd.snd x.fst y ∧ x.fst = y ∧ True)))
 (ifB
 (decide
 (((↑x.snd.fst : Int) + (↑x.snd.snd.snd : Int)) %
 (18446744073709551616 : Int) /
 (2 : Int) <
 ((↑x.snd.fst : Int) + (↑x.snd.snd.snd : Int)) %
 (18446744073709551616 : Int) /
 (2 : Int) +
 (↑x.snd.snd.fst : Int) -
 x_1.fst))
 (ifB
 (decide
 (((↑x.snd.fst : Int) + (↑x.snd.snd.snd : Int)) %
 (18446744073709551616 : Int) /
 (2 : Int) +
 (↑x.snd.snd.fst : Int) -
 x_1.fst <
 (↑x.snd.snd.snd : Int)))
 (∃ (x_2 : List En × Nat × Nat × Nat),
 x.fst.length = x_2.fst.length ∧
 ((↑x.snd.fst : Int) + (↑x.snd.snd.snd : Int)) %
 (18446744073709551616 : Int) /
 (2 : Int) =
 (↑x_2.snd.fst : Int) ∧
 ((↑x.snd.fst : Int) + (↑x.snd.snd.snd : Int)) %
 (18446744073709551616 : Int) /
 (2 : Int) +
 (↑x.snd.snd.fst : Int) -
 x_1.fst =
 (↑x_2.snd.snd.fst : Int) ∧
 (↑x.snd.snd.snd : Int) = (↑x_2.snd.snd.snd : Int) ∧
 x.fst = x_2.fst ∧
 (x_2.snd.fst < x_2.snd.snd.fst ∧
 x_2.snd.snd.fst < x_2.snd.snd.snd ∧
 x_2.snd.snd.snd ≤ x_2.fst.length ∧
 x_2.fst.length ≤ most ∧
 x_2.snd.snd.snd ≤ x_2.snd.fst + n ∧
 List.Pairwise (fun (a b : En) => key a ≤ key b)
 (mids x_2.fst x_2.snd.fst x_2.snd.snd.fst) ∧
 List.Pairwise
 (fun (a b : En) => key a ≤ key b)
 (mids x_2.fst x_2.snd.snd.fst
 x_2.snd.snd.snd)) ∧
 ∀ (y : List En),
 SSR key x_2.snd.fst x_2.snd.snd.snd x_2.fst y →
 ∃ (y_1 : List En),
 SSR key x.snd.fst x.snd.snd.snd x.fst y_1 ∧
 y = y_1 ∧ True)
 (∃ (y : List En),
 SSR key x.snd.fst x.snd.snd.snd x.fst y ∧ x.fst = y ∧ True))
 (∃ (y : List En),
 SSR key x.snd.fst x.snd.snd.snd x.fst y ∧ x.fst = y ∧ True)))))))
theorem o_vsym : (∀ (n : Nat), owes Try.prog (tab (Y1 n)) LqV 0 149 Try.f149 (SymS 140 key1 (n+1))) = T_vsym key1 := by kernel_rfl
theorem o_vsym0 : (∀ (n : Nat), owes Try.prog (tab (Y0 n)) LqV 0 149 Try.f149 (SymS 139 key0 (n+1))) = T_vsym key0 := by kernel_rfl
end Sp
