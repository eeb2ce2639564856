/- Printed by sx.py, a program of this work: what the walks of some functions owe. -/
import Derived.Test.YthnhbnakpmkppaaSpS
import Derived.ProofKit
set_option linter.all false
set_option maxRecDepth 100000
namespace Sp
open Go Go.Proofs Sx
def T_hash : Prop :=
 ∀ (x : Int × Pf),
 ((0 : Int) ≤ (pA x.snd).fst ∧ (pA x.snd).fst < (18446744073709551616 : Int)) ∧
 (0 : Int) ≤ (pA x.snd).snd.fst ∧ (pA x.snd).snd.fst < (18446744073709551616 : Int) →
 ∃ (x_1 : List Int × Pf),
 (0 : Nat) = x_1.fst.length ∧
 x.snd.fst = x_1.snd.fst ∧
 x.snd.snd.fst = x_1.snd.snd.fst ∧
 x.snd.snd.snd.fst = x_1.snd.snd.snd.fst ∧
 x.snd.snd.snd.snd = x_1.snd.snd.snd.snd ∧
 [] = x_1.fst ∧
 (x_1.fst.length ≤ most ∧
 ((0 : Int) ≤ (pA x_1.snd).fst ∧ (pA x_1.snd).fst < (18446744073709551616 : Int)) ∧
 (0 : Int) ≤ (pA x_1.snd).snd.fst ∧ (pA x_1.snd).snd.fst < (18446744073709551616 : Int)) ∧
 ∀ (y : Unit),
 True →
 ((0 : Int) ≤ (0 : Int) ∧ (0 : Int) < (2 : Int)) ∧
 ∃ (I : Int × Int → Prop),
 ∃ (μ : Int × Int → Nat),
 (∃ (x : Int × Int),
 I x ∧ (0 : Int) = x.fst ∧ (14695981039346656037 : Int) = x.snd ∧ True) ∧
 ∀ (x_2 : Int × Int),
 I x_2 →
 ifB (decide (x_2.fst < (1 : Int)))
 (((0 : Int) ≤ x_2.fst ∧ x_2.fst < (1 : Int)) ∧
 ((-9223372036854775808 : Int) ≤ x_2.fst + (1 : Int) ∧
 x_2.fst + (1 : Int) ≤ (9223372036854775807 : Int)) ∧
 ∃ (y : Int × Int),
 I y ∧
 μ y < μ x_2 ∧
 x_2.fst + (1 : Int) = y.fst ∧
 bits BinOp.xor IntKind.u64 x_2.snd
 ([max x.fst (0 : Int) % (256 : Int)].getD x_2.fst.toNat
 (0 : Int)) *
 (1099511628211 : Int) %
 (18446744073709551616 : Int) =
 y.snd ∧
 True)
 (((-9223372036854775808 : Int) ≤ (1 : Int) ∧
 (1 : Int) ≤ (9223372036854775807 : Int)) ∧
 ((0 : Int) ≤ (1 : Int) ∧ (1 : Int) < (2 : Int)) ∧
 ∃ (I : Int × Int → Prop),
 ∃ (μ : Int × Int → Nat),
 (∃ (x : Int × Int), I x ∧ (0 : Int) = x.fst ∧ x_2.snd = x.snd ∧ True) ∧
 ∀ (x_3 : Int × Int),
 I x_3 →
 ifB (decide (x_3.fst < (↑(x_1.fst ++ putP x_1.snd).length : Int)))
 (((0 : Int) ≤ x_3.fst ∧
 x_3.fst < (↑(x_1.fst ++ putP x_1.snd).length : Int)) ∧
 ((-9223372036854775808 : Int) ≤ x_3.fst + (1 : Int) ∧
 x_3.fst + (1 : Int) ≤ (9223372036854775807 : Int)) ∧
 ∃ (y : Int × Int),
 I y ∧
 μ y < μ x_3 ∧
 x_3.fst + (1 : Int) = y.fst ∧
 bits BinOp.xor IntKind.u64 x_3.snd
 ((x_1.fst ++ putP x_1.snd).getD
 x_3.fst.toNat (0 : Int)) *
 (1099511628211 : Int) %
 (18446744073709551616 : Int) =
 y.snd ∧
 True)
 (((-9223372036854775808 : Int) ≤ (2 : Int) ∧
 (2 : Int) ≤ (9223372036854775807 : Int)) ∧
 ∃ (y : Unit), True ∧ x_3.snd = hashP x.fst x.snd ∧ True))
theorem o_hash : owes Try.prog (tab R4) LqS 1 23 Try.f23 HashS = T_hash := by kernel_rfl
def T_snew : Prop :=
 ∀ (x : Int × Int),
 True →
 ((-9223372036854775808 : Int) ≤ max (1 : Int) (min x.fst (4 : Int)) * max (1 : Int) (min x.snd (256 : Int)) ∧
 max (1 : Int) (min x.fst (4 : Int)) * max (1 : Int) (min x.snd (256 : Int)) ≤ (9223372036854775807 : Int)) ∧
 ((0 : Int) ≤ max (1 : Int) (min x.fst (4 : Int)) * max (1 : Int) (min x.snd (256 : Int)) ∧
 max (1 : Int) (min x.fst (4 : Int)) * max (1 : Int) (min x.snd (256 : Int)) ≤
 max (1 : Int) (min x.fst (4 : Int)) * max (1 : Int) (min x.snd (256 : Int)) ∧
 max (1 : Int) (min x.fst (4 : Int)) * max (1 : Int) (min x.snd (256 : Int)) ≤ (140737488355328 : Int) ∧
 max (1 : Int) (min x.fst (4 : Int)) * max (1 : Int) (min x.snd (256 : Int)) * (1 : Int) ≤
 (140737488355328 : Int)) ∧
 ∃ (y : Unit),
 True ∧
 (max (1 : Int) (min x.fst (4 : Int)) * max (1 : Int) (min x.snd (256 : Int))).toNat =
 (newK x.fst x.snd).fst.length ∧
 max (1 : Int) (min x.snd (256 : Int)) = (newK x.fst x.snd).snd ∧
 List.replicate (max (1 : Int) (min x.fst (4 : Int)) * max (1 : Int) (min x.snd (256 : Int))).toNat
 (0 : Int) =
 (newK x.fst x.snd).fst ∧
 True
theorem o_snew : owes Try.prog (tab S0) LqS 0 13 Try.f13 NewS = T_snew := by kernel_rfl
def T_sadd : Prop :=
 ∀ (x : Sk × Pf),
 okK x.fst ∧
 ((0 : Int) ≤ (pA x.snd).fst ∧ (pA x.snd).fst < (18446744073709551616 : Int)) ∧
 (0 : Int) ≤ (pA x.snd).snd.fst ∧ (pA x.snd).snd.fst < (18446744073709551616 : Int) →
 ifB (decide ((↑x.fst.fst.length : Int) = (0 : Int)))
 (∃ (y : Unit), True ∧ false = saneP x.snd ∧ x.fst.fst = (addK x.fst x.snd).fst ∧ True)
 (∃ (x_1 : Int × Int × Bool × Int),
 x.snd.fst = x_1.fst ∧
 x.snd.snd.fst = x_1.snd.fst ∧
 x.snd.snd.snd.fst = x_1.snd.snd.fst ∧
 x.snd.snd.snd.snd = x_1.snd.snd.snd ∧
 (((0 : Int) ≤ (pA x_1).fst ∧ (pA x_1).fst < (18446744073709551616 : Int)) ∧
 (0 : Int) ≤ (pA x_1).snd.fst ∧ (pA x_1).snd.fst < (18446744073709551616 : Int)) ∧
 ∀ (y : Unit),
 True →
 ifB (!saneP x_1)
 (∃ (y : Unit), True ∧ false = saneP x.snd ∧ x.fst.fst = (addK x.fst x.snd).fst ∧ True)
 (((0 : Int) ≤ (↑x.fst.fst.length : Int) ∧ (0 : Int) < x.fst.snd) ∧
 ∃ (I : Int × List Int → Prop),
 ∃ (μ : Int × List Int → Nat),
 (∃ (x_2 : Int × List Int), I x_2 ∧ (0 : Int) = x_2.fst ∧ x.fst.fst = x_2.snd ∧ True) ∧
 ∀ (x_2 : Int × List Int),
 I x_2 →
 ifB (decide (x_2.fst < (↑x.fst.fst.length : Int) / x.fst.snd))
 (((-9223372036854775808 : Int) ≤ x_2.fst * x.fst.snd ∧
 x_2.fst * x.fst.snd ≤ (9223372036854775807 : Int)) ∧
 ∃ (x_3 : Int × Pf),
 x_2.fst = x_3.fst ∧
 x.snd.fst = x_3.snd.fst ∧
 x.snd.snd.fst = x_3.snd.snd.fst ∧
 x.snd.snd.snd.fst = x_3.snd.snd.snd.fst ∧
 x.snd.snd.snd.snd = x_3.snd.snd.snd.snd ∧
 (((0 : Int) ≤ (pA x_3.snd).fst ∧
 (pA x_3.snd).fst < (18446744073709551616 : Int)) ∧
 (0 : Int) ≤ (pA x_3.snd).snd.fst ∧
 (pA x_3.snd).snd.fst < (18446744073709551616 : Int)) ∧
 ∀ (y : Unit),
 True →
 ((0 : Int) ≤ hashP x_3.fst x_3.snd ∧
 (0 : Int) < x.fst.snd % (18446744073709551616 : Int)) ∧
 ((-9223372036854775808 : Int) ≤
 hashP x_3.fst x_3.snd %
 (x.fst.snd % (18446744073709551616 : Int)) ∧
 hashP x_3.fst x_3.snd %
 (x.fst.snd % (18446744073709551616 : Int)) ≤
 (9223372036854775807 : Int)) ∧
 ((-9223372036854775808 : Int) ≤
 x_2.fst * x.fst.snd +
 hashP x_3.fst x_3.snd %
 (x.fst.snd % (18446744073709551616 : Int)) ∧
 x_2.fst * x.fst.snd +
 hashP x_3.fst x_3.snd %
 (x.fst.snd % (18446744073709551616 : Int)) ≤
 (9223372036854775807 : Int)) ∧
 ((0 : Int) ≤
 x_2.fst * x.fst.snd +
 hashP x_3.fst x_3.snd %
 (x.fst.snd % (18446744073709551616 : Int)) ∧
 x_2.fst * x.fst.snd +
 hashP x_3.fst x_3.snd %
 (x.fst.snd % (18446744073709551616 : Int)) <
 (↑x.fst.fst.length : Int)) ∧
 ((-9223372036854775808 : Int) ≤ x_2.fst + (1 : Int) ∧
 x_2.fst + (1 : Int) ≤
 (9223372036854775807 : Int)) ∧
 ∃ (y : Int × List Int),
 I y ∧
 μ y < μ x_2 ∧
 x_2.fst + (1 : Int) = y.fst ∧
 x_2.snd.set
 (x_2.fst * x.fst.snd +
 hashP x_3.fst x_3.snd %
 (x.fst.snd %
 (18446744073709551616 :
 Int))).toNat
 ((x_2.snd.getD
 (x_2.fst * x.fst.snd +
 hashP x_3.fst x_3.snd %
 (x.fst.snd %
 (18446744073709551616 :
 Int))).toNat
 (0 : Int) +
 min (1 : Int)
 (((255 : Int) -
 x_2.snd.getD
 (x_2.fst * x.fst.snd +
 hashP x_3.fst
 x_3.snd %
 (x.fst.snd %
 (18446744073709551616 :
 Int))).toNat
 (0 : Int)) %
 (256 : Int))) %
 (256 : Int)) =
 y.snd ∧
 True)
 (∃ (y : Unit),
 True ∧ true = saneP x.snd ∧ x_2.snd = (addK x.fst x.snd).fst ∧ True)))
theorem o_sadd : owes Try.prog (tab S0) LqS 2 17 Try.f17 AddS = T_sadd := by kernel_rfl
def T_scount : Prop :=
 ∀ (x : Sk × Pf),
 okK x.fst ∧
 ((0 : Int) ≤ (pA x.snd).fst ∧ (pA x.snd).fst < (18446744073709551616 : Int)) ∧
 (0 : Int) ≤ (pA x.snd).snd.fst ∧ (pA x.snd).snd.fst < (18446744073709551616 : Int) →
 ifB (decide ((↑x.fst.fst.length : Int) = (0 : Int))) (∃ (y : Unit), True ∧ (0 : Int) = countK x.fst x.snd ∧ True)
 (∃ (x_1 : Int × Int × Bool × Int),
 x.snd.fst = x_1.fst ∧
 x.snd.snd.fst = x_1.snd.fst ∧
 x.snd.snd.snd.fst = x_1.snd.snd.fst ∧
 x.snd.snd.snd.snd = x_1.snd.snd.snd ∧
 (((0 : Int) ≤ (pA x_1).fst ∧ (pA x_1).fst < (18446744073709551616 : Int)) ∧
 (0 : Int) ≤ (pA x_1).snd.fst ∧ (pA x_1).snd.fst < (18446744073709551616 : Int)) ∧
 ∀ (y : Unit),
 True →
 ifB (!saneP x_1) (∃ (y : Unit), True ∧ (0 : Int) = countK x.fst x.snd ∧ True)
 (((0 : Int) ≤ (↑x.fst.fst.length : Int) ∧ (0 : Int) < x.fst.snd) ∧
 ∃ (I : Int × Int → Prop),
 ∃ (μ : Int × Int → Nat),
 (∃ (x : Int × Int), I x ∧ (0 : Int) = x.fst ∧ (255 : Int) = x.snd ∧ True) ∧
 ∀ (x_2 : Int × Int),
 I x_2 →
 ifB (decide (x_2.fst < (↑x.fst.fst.length : Int) / x.fst.snd))
 (((-9223372036854775808 : Int) ≤ x_2.fst * x.fst.snd ∧
 x_2.fst * x.fst.snd ≤ (9223372036854775807 : Int)) ∧
 ∃ (x_3 : Int × Pf),
 x_2.fst = x_3.fst ∧
 x.snd.fst = x_3.snd.fst ∧
 x.snd.snd.fst = x_3.snd.snd.fst ∧
 x.snd.snd.snd.fst = x_3.snd.snd.snd.fst ∧
 x.snd.snd.snd.snd = x_3.snd.snd.snd.snd ∧
 (((0 : Int) ≤ (pA x_3.snd).fst ∧
 (pA x_3.snd).fst < (18446744073709551616 : Int)) ∧
 (0 : Int) ≤ (pA x_3.snd).snd.fst ∧
 (pA x_3.snd).snd.fst < (18446744073709551616 : Int)) ∧
 ∀ (y : Unit),
 True →
 ((0 : Int) ≤ hashP x_3.fst x_3.snd ∧
 (0 : Int) < x.fst.snd % (18446744073709551616 : Int)) ∧
 ((-9223372036854775808 : Int) ≤
 hashP x_3.fst x_3.snd %
 (x.fst.snd % (18446744073709551616 : Int)) ∧
 hashP x_3.fst x_3.snd %
 (x.fst.snd % (18446744073709551616 : Int)) ≤
 (9223372036854775807 : Int)) ∧
 ((-9223372036854775808 : Int) ≤
 x_2.fst * x.fst.snd +
 hashP x_3.fst x_3.snd %
 (x.fst.snd % (18446744073709551616 : Int)) ∧
 x_2.fst * x.fst.snd +
 hashP x_3.fst x_3.snd %
 (x.fst.snd % (18446744073709551616 : Int)) ≤
 (9223372036854775807 : Int)) ∧
 ((0 : Int) ≤
 x_2.fst * x.fst.snd +
 hashP x_3.fst x_3.snd %
 (x.fst.snd % (18446744073709551616 : Int)) ∧
 x_2.fst * x.fst.snd +
 hashP x_3.fst x_3.snd %
 (x.fst.snd % (18446744073709551616 : Int)) <
 (↑x.fst.fst.length : Int)) ∧
 ((-9223372036854775808 : Int) ≤ x_2.fst + (1 : Int) ∧
 x_2.fst + (1 : Int) ≤
 (9223372036854775807 : Int)) ∧
 ∃ (y : Int × Int),
 I y ∧
 μ y < μ x_2 ∧
 x_2.fst + (1 : Int) = y.fst ∧
 min x_2.snd
 (x.fst.fst.getD
 (x_2.fst * x.fst.snd +
 hashP x_3.fst x_3.snd %
 (x.fst.snd %
 (18446744073709551616 :
 Int))).toNat
 (0 : Int)) =
 y.snd ∧
 True)
 (∃ (y : Unit), True ∧ x_2.snd = countK x.fst x.snd ∧ True)))
theorem o_scount : owes Try.prog (tab S0) LqSc 2 19 Try.f19 CountS = T_scount := by kernel_rfl
def T_sdecay : Prop :=
 ∀ (x : List Int × Int),
 okK x →
 ∃ (I : Int × List Int → Prop),
 ∃ (μ : Int × List Int → Nat),
 (∃ (x_1 : Int × List Int), I x_1 ∧ (0 : Int) = x_1.fst ∧ x.fst = x_1.snd ∧ True) ∧
 ∀ (x_1 : Int × List Int),
 I x_1 →
 ifB (decide (x_1.fst < (↑x.fst.length : Int)))
 (((0 : Int) ≤ x_1.fst ∧ x_1.fst < (↑x.fst.length : Int)) ∧
 ((0 : Int) ≤ x_1.snd.getD x_1.fst.toNat (0 : Int) ∧ (0 : Int) < (2 : Int)) ∧
 ((0 : Int) ≤ x_1.fst ∧ x_1.fst < (↑x.fst.length : Int)) ∧
 ((-9223372036854775808 : Int) ≤ x_1.fst + (1 : Int) ∧
 x_1.fst + (1 : Int) ≤ (9223372036854775807 : Int)) ∧
 ∃ (y : Int × List Int),
 I y ∧
 μ y < μ x_1 ∧
 x_1.fst + (1 : Int) = y.fst ∧
 x_1.snd.set x_1.fst.toNat (x_1.snd.getD x_1.fst.toNat (0 : Int) / (2 : Int)) = y.snd ∧
 True)
 (∃ (y : Unit), True ∧ x_1.snd = (decK x).fst ∧ True)
theorem o_sdecay : owes Try.prog (tab S0) LqS 0 15 Try.f15 DecayS = T_sdecay := by kernel_rfl
end Sp
