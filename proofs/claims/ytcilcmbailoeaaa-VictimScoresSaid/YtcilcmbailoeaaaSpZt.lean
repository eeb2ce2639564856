/- Printed by sx.py, a program of this work: what the walks of some functions owe. -/
import Derived.Test.YtcilcmbailoeaaaSpZ
import Derived.ProofKit
set_option linter.all false
set_option maxRecDepth 100000
namespace Sp
open Go Go.Proofs Sx
def T_vstab (key : En → Int) : Prop :=
 ∀ (x : List En),
 x.length ≤ most →
 ∃ (I : Int × Int × List En → Prop),
 ∃ (μ : Int × Int × List En → Nat),
 (∃ (x_1 : Int × Int × List En),
 I x_1 ∧ (0 : Int) = x_1.fst ∧ (20 : Int) = x_1.snd.fst ∧ x = x_1.snd.snd ∧ True) ∧
 ∀ (x_1 : Int × Int × List En),
 I x_1 →
 ifB (decide (x_1.snd.fst ≤ (↑x.length : Int)))
 (∃ (x_2 : List En × Nat × Nat),
 x.length = x_2.fst.length ∧
 x_1.fst = (↑x_2.snd.fst : Int) ∧
 x_1.snd.fst = (↑x_2.snd.snd : Int) ∧
 x_1.snd.snd = x_2.fst ∧
 (x_2.snd.fst ≤ x_2.snd.snd ∧ x_2.snd.snd ≤ x_2.fst.length ∧ x_2.fst.length ≤ most) ∧
 ∀ (y : List En),
 SSR key x_2.snd.fst x_2.snd.snd x_2.fst y →
 ((-9223372036854775808 : Int) ≤ x_1.snd.fst + (20 : Int) ∧
 x_1.snd.fst + (20 : Int) ≤ (9223372036854775807 : Int)) ∧
 ∃ (y_1 : Int × Int × List En),
 I y_1 ∧
 μ y_1 < μ x_1 ∧
 x_1.snd.fst = y_1.fst ∧
 x_1.snd.fst + (20 : Int) = y_1.snd.fst ∧ y = y_1.snd.snd ∧ True)
 (∃ (x_2 : List En × Nat × Nat),
 x.length = x_2.fst.length ∧
 x_1.fst = (↑x_2.snd.fst : Int) ∧
 (↑x.length : Int) = (↑x_2.snd.snd : Int) ∧
 x_1.snd.snd = x_2.fst ∧
 (x_2.snd.fst ≤ x_2.snd.snd ∧ x_2.snd.snd ≤ x_2.fst.length ∧ x_2.fst.length ≤ most) ∧
 ∀ (y : List En),
 SSR key x_2.snd.fst x_2.snd.snd x_2.fst y →
 ∃ (I : Int × List En → Prop),
 ∃ (μ : Int × List En → Nat),
 (∃ (x : Int × List En), I x ∧ (20 : Int) = x.fst ∧ y = x.snd ∧ True) ∧
 ∀ (x_3 : Int × List En),
 I x_3 →
 ifB (decide (x_3.fst < (↑x.length : Int)))
 (((-9223372036854775808 : Int) ≤ (2 : Int) * x_3.fst ∧
 (2 : Int) * x_3.fst ≤ (9223372036854775807 : Int)) ∧
 ∃ (I_1 : Int × Int × List En → Prop),
 ∃ (μ_1 : Int × Int × List En → Nat),
 (∃ (x : Int × Int × List En),
 I_1 x ∧
 (0 : Int) = x.fst ∧
 (2 : Int) * x_3.fst = x.snd.fst ∧
 x_3.snd = x.snd.snd ∧ True) ∧
 ∀ (x_4 : Int × Int × List En),
 I_1 x_4 →
 ifB (decide (x_4.snd.fst ≤ (↑x.length : Int)))
 (((-9223372036854775808 : Int) ≤ x_4.fst + x_3.fst ∧
 x_4.fst + x_3.fst ≤ (9223372036854775807 : Int)) ∧
 ∃ (x_5 : List En × Nat × Nat × Nat),
 x.length = x_5.fst.length ∧
 x_4.fst = (↑x_5.snd.fst : Int) ∧
 x_4.fst + x_3.fst = (↑x_5.snd.snd.fst : Int) ∧
 x_4.snd.fst = (↑x_5.snd.snd.snd : Int) ∧
 x_4.snd.snd = x_5.fst ∧
 (x_5.snd.fst < x_5.snd.snd.fst ∧
 x_5.snd.snd.fst < x_5.snd.snd.snd ∧
 x_5.snd.snd.snd ≤ x_5.fst.length ∧
 x_5.fst.length ≤ most ∧
 x_5.snd.snd.snd ≤ x_5.snd.fst + most ∧
 List.Pairwise
 (fun (a b : En) =>
 key a ≤ key b)
 (mids x_5.fst x_5.snd.fst
 x_5.snd.snd.fst) ∧
 List.Pairwise
 (fun (a b : En) =>
 key a ≤ key b)
 (mids x_5.fst x_5.snd.snd.fst
 x_5.snd.snd.snd)) ∧
 ∀ (y : List En),
 SSR key x_5.snd.fst x_5.snd.snd.snd x_5.fst
 y →
 ((-9223372036854775808 : Int) ≤
 (2 : Int) * x_3.fst ∧
 (2 : Int) * x_3.fst ≤
 (9223372036854775807 : Int)) ∧
 ((-9223372036854775808 : Int) ≤
 x_4.snd.fst +
 (2 : Int) * x_3.fst ∧
 x_4.snd.fst + (2 : Int) * x_3.fst ≤
 (9223372036854775807 : Int)) ∧
 ∃ (y_1 : Int × Int × List En),
 I_1 y_1 ∧
 μ_1 y_1 < μ_1 x_4 ∧
 x_4.snd.fst = y_1.fst ∧
 x_4.snd.fst +
 (2 : Int) * x_3.fst =
 y_1.snd.fst ∧
 y = y_1.snd.snd ∧ True)
 (((-9223372036854775808 : Int) ≤ x_4.fst + x_3.fst ∧
 x_4.fst + x_3.fst ≤ (9223372036854775807 : Int)) ∧
 ifB (decide (x_4.fst + x_3.fst < (↑x.length : Int)))
 (∃ (x_5 : List En × Nat × Nat × Nat),
 x.length = x_5.fst.length ∧
 x_4.fst = (↑x_5.snd.fst : Int) ∧
 x_4.fst + x_3.fst = (↑x_5.snd.snd.fst : Int) ∧
 (↑x.length : Int) = (↑x_5.snd.snd.snd : Int) ∧
 x_4.snd.snd = x_5.fst ∧
 (x_5.snd.fst < x_5.snd.snd.fst ∧
 x_5.snd.snd.fst < x_5.snd.snd.snd ∧
 x_5.snd.snd.snd ≤ x_5.fst.length ∧
 x_5.fst.length ≤ most ∧
 x_5.snd.snd.snd ≤
 x_5.snd.fst + most ∧
 List.Pairwise
 (fun (a b : En) =>
 key a ≤ key b)
 (mids x_5.fst x_5.snd.fst
 x_5.snd.snd.fst) ∧
 List.Pairwise
 (fun (a b : En) =>
 key a ≤ key b)
 (mids x_5.fst x_5.snd.snd.fst
 x_5.snd.snd.snd)) ∧
 ∀ (y : List En),
 SSR key x_5.snd.fst x_5.snd.snd.snd
 x_5.fst y →
 ((-9223372036854775808 : Int) ≤
 x_3.fst * (2 : Int) ∧
 x_3.fst * (2 : Int) ≤
 (9223372036854775807 : Int)) ∧
 ∃ (y_1 : Int × List En),
 I y_1 ∧
 μ y_1 < μ x_3 ∧
 x_3.fst * (2 : Int) = y_1.fst ∧
 y = y_1.snd ∧ True)
 (((-9223372036854775808 : Int) ≤ x_3.fst * (2 : Int) ∧
 x_3.fst * (2 : Int) ≤ (9223372036854775807 : Int)) ∧
 ∃ (y : Int × List En),
 I y ∧
 μ y < μ x_3 ∧
 x_3.fst * (2 : Int) = y.fst ∧
 x_4.snd.snd = y.snd ∧ True)))
 (∃ (y : List En), SSR key (0 : Nat) x.length x y ∧ x_3.snd = y ∧ True))
theorem o_vstab : owes Try.prog (tab Z1) LqV 0 147 Try.f147 (StabS 140 key1) = T_vstab key1 := by kernel_rfl
theorem o_vstab0 : owes Try.prog (tab Z0) LqV 0 147 Try.f147 (StabS 139 key0) = T_vstab key0 := by kernel_rfl
end Sp
