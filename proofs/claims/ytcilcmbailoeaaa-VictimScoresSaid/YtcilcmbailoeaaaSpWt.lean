/- Printed by sx.py, a program of this work: what the walks of some functions owe. -/
import Derived.Test.YtcilcmbailoeaaaSpW
import Derived.ProofKit
set_option linter.all false
set_option maxRecDepth 100000
namespace Sp
open Go Go.Proofs Sx
def T_bytes : Prop :=
 ∀ (x : Int × Int × Bool),
 ((0 : Int) ≤ x.fst ∧ x.fst < (18446744073709551616 : Int)) ∧
 (0 : Int) ≤ x.snd.fst ∧ x.snd.fst < (18446744073709551616 : Int) →
 ∃ (x_1 : Int × Int × Bool),
 x.fst = x_1.fst ∧
 x.snd.fst = x_1.snd.fst ∧
 x.snd.snd = x_1.snd.snd ∧
 (((0 : Int) ≤ x_1.fst ∧ x_1.fst < (18446744073709551616 : Int)) ∧
 (0 : Int) ≤ x_1.snd.fst ∧ x_1.snd.fst < (18446744073709551616 : Int)) ∧
 ∀ (y : Unit),
 True →
 ∃ (x_2 : Bool),
 x.snd.snd = x_2 ∧
 True ∧
 ∀ (y : Unit),
 True →
 ((0 : Int) ≤ (↑(wd x_2) : Int) ∧ (0 : Int) < (8 : Int)) ∧
 ((0 : Int) ≤ (↑(wd x_2) : Int) / (8 : Int) ∧
 (↑(wd x_2) : Int) / (8 : Int) ≤ (↑(wd x_2) : Int) / (8 : Int) ∧
 (↑(wd x_2) : Int) / (8 : Int) ≤ (140737488355328 : Int) ∧
 (↑(wd x_2) : Int) / (8 : Int) * (1 : Int) ≤ (140737488355328 : Int)) ∧
 ∃ (I : Int × List Int → Prop),
 ∃ (μ : Int × List Int → Nat),
 (∃ (x : Int × List Int),
 I x ∧
 (0 : Int) = x.fst ∧
 List.replicate ((↑(wd x_2) : Int) / (8 : Int)).toNat (0 : Int) = x.snd ∧
 True) ∧
 ∀ (x_3 : Int × List Int),
 I x_3 →
 ifB (decide (x_3.fst < (↑((↑(wd x_2) : Int) / (8 : Int)).toNat : Int)))
 (((-9223372036854775808 : Int) ≤ x_3.fst * (8 : Int) ∧
 x_3.fst * (8 : Int) ≤ (9223372036854775807 : Int)) ∧
 ((0 : Int) ≤ x_3.fst * (8 : Int) ∧ (0 : Int) < (64 : Int)) ∧
 ifB (decide (x_3.fst * (8 : Int) / (64 : Int) = (0 : Int)))
 (((0 : Int) ≤ x_3.fst * (8 : Int) ∧ (0 : Int) < (64 : Int)) ∧
 ((-9223372036854775808 : Int) ≤
 (56 : Int) - x_3.fst * (8 : Int) % (64 : Int) ∧
 (56 : Int) - x_3.fst * (8 : Int) % (64 : Int) ≤
 (9223372036854775807 : Int)) ∧
 (0 : Int) ≤
 ((56 : Int) - x_3.fst * (8 : Int) % (64 : Int)) %
 (18446744073709551616 : Int) ∧
 ((0 : Int) ≤ x_3.fst ∧
 x_3.fst < (↑((↑(wd x_2) : Int) / (8 : Int)).toNat : Int)) ∧
 ((-9223372036854775808 : Int) ≤ x_3.fst + (1 : Int) ∧
 x_3.fst + (1 : Int) ≤ (9223372036854775807 : Int)) ∧
 ∃ (y : Int × List Int),
 I y ∧
 μ y < μ x_3 ∧
 x_3.fst + (1 : Int) = y.fst ∧
 x_3.snd.set x_3.fst.toNat
 ((canA x_1).fst /
 (2 : Int) ^
 min
 (((56 : Int) -
 x_3.fst * (8 : Int) %
 (64 : Int)) %
 (18446744073709551616 :
 Int)).toNat
 (64 : Nat) %
 (256 : Int)) =
 y.snd ∧
 True)
 (ifB (decide (x_3.fst * (8 : Int) / (64 : Int) = (1 : Int)))
 (((0 : Int) ≤ x_3.fst * (8 : Int) ∧ (0 : Int) < (64 : Int)) ∧
 ((-9223372036854775808 : Int) ≤
 (56 : Int) - x_3.fst * (8 : Int) % (64 : Int) ∧
 (56 : Int) - x_3.fst * (8 : Int) % (64 : Int) ≤
 (9223372036854775807 : Int)) ∧
 (0 : Int) ≤
 ((56 : Int) - x_3.fst * (8 : Int) % (64 : Int)) %
 (18446744073709551616 : Int) ∧
 ((0 : Int) ≤ x_3.fst ∧
 x_3.fst <
 (↑((↑(wd x_2) : Int) / (8 : Int)).toNat : Int)) ∧
 ((-9223372036854775808 : Int) ≤ x_3.fst + (1 : Int) ∧
 x_3.fst + (1 : Int) ≤ (9223372036854775807 : Int)) ∧
 ∃ (y : Int × List Int),
 I y ∧
 μ y < μ x_3 ∧
 x_3.fst + (1 : Int) = y.fst ∧
 x_3.snd.set x_3.fst.toNat
 ((canA x_1).snd.fst /
 (2 : Int) ^
 min
 (((56 : Int) -
 x_3.fst * (8 : Int) %
 (64 : Int)) %
 (18446744073709551616 :
 Int)).toNat
 (64 : Nat) %
 (256 : Int)) =
 y.snd ∧
 True)
 False))
 (∃ (y : Unit),
 True ∧
 ((↑(wd x_2) : Int) / (8 : Int)).toNat = (bytesA x).length ∧
 x_3.snd = bytesA x ∧ True)
theorem o_bytes : owes Try.prog (tab W0) LqW 0 68 Try.f68 BytesS = T_bytes := by kernel_rfl
def T_from : Prop :=
 ∀ (x : List Int),
 (∀ (x_1 : Int), List.Mem x_1 x → (0 : Int) ≤ x_1 ∧ x_1 ≤ (255 : Int)) →
 ifB (!decide ((↑x.length : Int) = (16 : Int)))
 (ifB (!decide ((↑x.length : Int) = (4 : Int)))
 (∃ (y : Unit),
 True ∧
 (0 : Int) = (fromE x).fst.fst ∧
 (0 : Int) = (fromE x).fst.snd.fst ∧ false = (fromE x).fst.snd.snd ∧ (4 : Int) = (fromE x).snd ∧ True)
 (∃ (I : Int × Int × Int → Prop),
 ∃ (μ : Int × Int × Int → Nat),
 (∃ (x : Int × Int × Int), I x ∧ (0 : Int) = x.fst ∧ (0 : Int) = x.snd.fst ∧ (0 : Int) = x.snd.snd ∧ True) ∧
 ∀ (x_1 : Int × Int × Int),
 I x_1 →
 ifB (decide (x_1.fst < (↑x.length : Int)))
 (((0 : Int) ≤ x_1.fst ∧ x_1.fst < (↑x.length : Int)) ∧
 ((-9223372036854775808 : Int) ≤ x_1.fst * (8 : Int) ∧
 x_1.fst * (8 : Int) ≤ (9223372036854775807 : Int)) ∧
 ((0 : Int) ≤ x_1.fst * (8 : Int) ∧ (0 : Int) < (64 : Int)) ∧
 ifB (decide (x_1.fst * (8 : Int) / (64 : Int) = (0 : Int)))
 (((0 : Int) ≤ x_1.fst * (8 : Int) ∧ (0 : Int) < (64 : Int)) ∧
 ((-9223372036854775808 : Int) ≤ (56 : Int) - x_1.fst * (8 : Int) % (64 : Int) ∧
 (56 : Int) - x_1.fst * (8 : Int) % (64 : Int) ≤ (9223372036854775807 : Int)) ∧
 (0 : Int) ≤
 ((56 : Int) - x_1.fst * (8 : Int) % (64 : Int)) % (18446744073709551616 : Int) ∧
 ifB (decide (x_1.fst * (8 : Int) / (64 : Int) = (0 : Int)))
 (((-9223372036854775808 : Int) ≤ x_1.fst + (1 : Int) ∧
 x_1.fst + (1 : Int) ≤ (9223372036854775807 : Int)) ∧
 ∃ (y : Int × Int × Int),
 I y ∧
 μ y < μ x_1 ∧
 x_1.fst + (1 : Int) = y.fst ∧
 bits BinOp.or IntKind.u64 x_1.snd.fst
 (x.getD x_1.fst.toNat (0 : Int) *
 (2 : Int) ^
 min
 (((56 : Int) - x_1.fst * (8 : Int) % (64 : Int)) %
 (18446744073709551616 : Int)).toNat
 (64 : Nat) %
 (18446744073709551616 : Int)) =
 y.snd.fst ∧
 x_1.snd.snd = y.snd.snd ∧ True)
 (ifB (decide (x_1.fst * (8 : Int) / (64 : Int) = (1 : Int)))
 (((-9223372036854775808 : Int) ≤ x_1.fst + (1 : Int) ∧
 x_1.fst + (1 : Int) ≤ (9223372036854775807 : Int)) ∧
 ∃ (y : Int × Int × Int),
 I y ∧
 μ y < μ x_1 ∧
 x_1.fst + (1 : Int) = y.fst ∧
 x_1.snd.fst = y.snd.fst ∧
 bits BinOp.or IntKind.u64 x_1.snd.fst
 (x.getD x_1.fst.toNat (0 : Int) *
 (2 : Int) ^
 min
 (((56 : Int) - x_1.fst * (8 : Int) % (64 : Int)) %
 (18446744073709551616 : Int)).toNat
 (64 : Nat) %
 (18446744073709551616 : Int)) =
 y.snd.snd ∧
 True)
 False))
 (ifB (decide (x_1.fst * (8 : Int) / (64 : Int) = (1 : Int)))
 (((0 : Int) ≤ x_1.fst * (8 : Int) ∧ (0 : Int) < (64 : Int)) ∧
 ((-9223372036854775808 : Int) ≤ (56 : Int) - x_1.fst * (8 : Int) % (64 : Int) ∧
 (56 : Int) - x_1.fst * (8 : Int) % (64 : Int) ≤ (9223372036854775807 : Int)) ∧
 (0 : Int) ≤
 ((56 : Int) - x_1.fst * (8 : Int) % (64 : Int)) % (18446744073709551616 : Int) ∧
 ifB (decide (x_1.fst * (8 : Int) / (64 : Int) = (0 : Int)))
 (((-9223372036854775808 : Int) ≤ x_1.fst + (1 : Int) ∧
 x_1.fst + (1 : Int) ≤ (9223372036854775807 : Int)) ∧
 ∃ (y : Int × Int × Int),
 I y ∧
 μ y < μ x_1 ∧
 x_1.fst + (1 : Int) = y.fst ∧
 bits BinOp.or IntKind.u64 x_1.snd.snd
 (x.getD x_1.fst.toNat (0 : Int) *
 (2 : Int) ^
 min
 (((56 : Int) - x_1.fst * (8 : Int) % (64 : Int)) %
 (18446744073709551616 : Int)).toNat
 (64 : Nat) %
 (18446744073709551616 : Int)) =
 y.snd.fst ∧
 x_1.snd.snd = y.snd.snd ∧ True)
 (ifB (decide (x_1.fst * (8 : Int) / (64 : Int) = (1 : Int)))
 (((-9223372036854775808 : Int) ≤ x_1.fst + (1 : Int) ∧
 x_1.fst + (1 : Int) ≤ (9223372036854775807 : Int)) ∧
 ∃ (y : Int × Int × Int),
 I y ∧
 μ y < μ x_1 ∧
 x_1.fst + (1 : Int) = y.fst ∧
 x_1.snd.fst = y.snd.fst ∧
 bits BinOp.or IntKind.u64 x_1.snd.snd
 (x.getD x_1.fst.toNat (0 : Int) *
 (2 : Int) ^
 min
 (((56 : Int) - x_1.fst * (8 : Int) % (64 : Int)) %
 (18446744073709551616 : Int)).toNat
 (64 : Nat) %
 (18446744073709551616 : Int)) =
 y.snd.snd ∧
 True)
 False))
 False))
 (∃ (y : Unit),
 True ∧
 x_1.snd.fst = (fromE x).fst.fst ∧
 x_1.snd.snd = (fromE x).fst.snd.fst ∧
 decide ((↑x.length : Int) = (16 : Int)) = (fromE x).fst.snd.snd ∧
 (0 : Int) = (fromE x).snd ∧ True)))
 (∃ (I : Int × Int × Int → Prop),
 ∃ (μ : Int × Int × Int → Nat),
 (∃ (x : Int × Int × Int), I x ∧ (0 : Int) = x.fst ∧ (0 : Int) = x.snd.fst ∧ (0 : Int) = x.snd.snd ∧ True) ∧
 ∀ (x_1 : Int × Int × Int),
 I x_1 →
 ifB (decide (x_1.fst < (↑x.length : Int)))
 (((0 : Int) ≤ x_1.fst ∧ x_1.fst < (↑x.length : Int)) ∧
 ((-9223372036854775808 : Int) ≤ x_1.fst * (8 : Int) ∧
 x_1.fst * (8 : Int) ≤ (9223372036854775807 : Int)) ∧
 ((0 : Int) ≤ x_1.fst * (8 : Int) ∧ (0 : Int) < (64 : Int)) ∧
 ifB (decide (x_1.fst * (8 : Int) / (64 : Int) = (0 : Int)))
 (((0 : Int) ≤ x_1.fst * (8 : Int) ∧ (0 : Int) < (64 : Int)) ∧
 ((-9223372036854775808 : Int) ≤ (56 : Int) - x_1.fst * (8 : Int) % (64 : Int) ∧
 (56 : Int) - x_1.fst * (8 : Int) % (64 : Int) ≤ (9223372036854775807 : Int)) ∧
 (0 : Int) ≤
 ((56 : Int) - x_1.fst * (8 : Int) % (64 : Int)) % (18446744073709551616 : Int) ∧
 ifB (decide (x_1.fst * (8 : Int) / (64 : Int) = (0 : Int)))
 (((-9223372036854775808 : Int) ≤ x_1.fst + (1 : Int) ∧
 x_1.fst + (1 : Int) ≤ (9223372036854775807 : Int)) ∧
 ∃ (y : Int × Int × Int),
 I y ∧
 μ y < μ x_1 ∧
 x_1.fst + (1 : Int) = y.fst ∧
 bits BinOp.or IntKind.u64 x_1.snd.fst
 (x.getD x_1.fst.toNat (0 : Int) *
 (2 : Int) ^
 min
 (((56 : Int) - x_1.fst * (8 : Int) % (64 : Int)) %
 (18446744073709551616 : Int)).toNat
 (64 : Nat) %
 (18446744073709551616 : Int)) =
 y.snd.fst ∧
 x_1.snd.snd = y.snd.snd ∧ True)
 (ifB (decide (x_1.fst * (8 : Int) / (64 : Int) = (1 : Int)))
 (((-9223372036854775808 : Int) ≤ x_1.fst + (1 : Int) ∧
 x_1.fst + (1 : Int) ≤ (9223372036854775807 : Int)) ∧
 ∃ (y : Int × Int × Int),
 I y ∧
 μ y < μ x_1 ∧
 x_1.fst + (1 : Int) = y.fst ∧
 x_1.snd.fst = y.snd.fst ∧
 bits BinOp.or IntKind.u64 x_1.snd.fst
 (x.getD x_1.fst.toNat (0 : Int) *
 (2 : Int) ^
 min
 (((56 : Int) - x_1.fst * (8 : Int) % (64 : Int)) %
 (18446744073709551616 : Int)).toNat
 (64 : Nat) %
 (18446744073709551616 : Int)) =
 y.snd.snd ∧
 True)
 False))
 (ifB (decide (x_1.fst * (8 : Int) / (64 : Int) = (1 : Int)))
 (((0 : Int) ≤ x_1.fst * (8 : Int) ∧ (0 : Int) < (64 : Int)) ∧
 ((-9223372036854775808 : Int) ≤ (56 : Int) - x_1.fst * (8 : Int) % (64 : Int) ∧
 (56 : Int) - x_1.fst * (8 : Int) % (64 : Int) ≤ (9223372036854775807 : Int)) ∧
 (0 : Int) ≤
 ((56 : Int) - x_1.fst * (8 : Int) % (64 : Int)) % (18446744073709551616 : Int) ∧
 ifB (decide (x_1.fst * (8 : Int) / (64 : Int) = (0 : Int)))
 (((-9223372036854775808 : Int) ≤ x_1.fst + (1 : Int) ∧
 x_1.fst + (1 : Int) ≤ (9223372036854775807 : Int)) ∧
 ∃ (y : Int × Int × Int),
 I y ∧
 μ y < μ x_1 ∧
 x_1.fst + (1 : Int) = y.fst ∧
 bits BinOp.or IntKind.u64 x_1.snd.snd
 (x.getD x_1.fst.toNat (0 : Int) *
 (2 : Int) ^
 min
 (((56 : Int) - x_1.fst * (8 : Int) % (64 : Int)) %
 (18446744073709551616 : Int)).toNat
 (64 : Nat) %
 (18446744073709551616 : Int)) =
 y.snd.fst ∧
 x_1.snd.snd = y.snd.snd ∧ True)
 (ifB (decide (x_1.fst * (8 : Int) / (64 : Int) = (1 : Int)))
 (((-9223372036854775808 : Int) ≤ x_1.fst + (1 : Int) ∧
 x_1.fst + (1 : Int) ≤ (9223372036854775807 : Int)) ∧
 ∃ (y : Int × Int × Int),
 I y ∧
 μ y < μ x_1 ∧
 x_1.fst + (1 : Int) = y.fst ∧
 x_1.snd.fst = y.snd.fst ∧
 bits BinOp.or IntKind.u64 x_1.snd.snd
 (x.getD x_1.fst.toNat (0 : Int) *
 (2 : Int) ^
 min
 (((56 : Int) - x_1.fst * (8 : Int) % (64 : Int)) %
 (18446744073709551616 : Int)).toNat
 (64 : Nat) %
 (18446744073709551616 : Int)) =
 y.snd.snd ∧
 True)
 False))
 False))
 (∃ (y : Unit),
 True ∧
 x_1.snd.fst = (fromE x).fst.fst ∧
 x_1.snd.snd = (fromE x).fst.snd.fst ∧
 decide ((↑x.length : Int) = (16 : Int)) = (fromE x).fst.snd.snd ∧
 (0 : Int) = (fromE x).snd ∧ True))
theorem o_from : owes Try.prog (tab W0) LqW 1 100 Try.f100 FromS = T_from := by kernel_rfl
def T_clone : Prop :=
 ∀ (x : List Int),
 x.length ≤ most →
 (x.length = (0 : Nat) → ∃ (y : Unit), True ∧ (0 : Nat) = x.length ∧ [] = x ∧ True) ∧
 (((0 : Nat) + x.length) * (1 : Nat) ≤ (140737488355328 : Nat) ∧ (0 : Nat) + x.length ≤ (140737488355328 : Nat)) ∧
 ∃ (y : Unit), True ∧ (0 : Nat) + x.length = x.length ∧ [] ++ x = x ∧ True
theorem o_clone : owes Try.prog (tab W0) LqW 0 102 Try.f102 (CloneS u8K) = T_clone := by kernel_rfl
def T_put : Prop :=
 ∀ (x : List Int × Pf),
 x.fst.length ≤ most ∧
 ((0 : Int) ≤ (pA x.snd).fst ∧ (pA x.snd).fst < (18446744073709551616 : Int)) ∧
 (0 : Int) ≤ (pA x.snd).snd.fst ∧ (pA x.snd).snd.fst < (18446744073709551616 : Int) →
 ∃ (x_1 : List Int),
 x.fst.length = x_1.length ∧
 x.fst = x_1 ∧
 x_1.length ≤ most ∧
 ∀ (y : Unit),
 True →
 ∃ (x_2 : Int × Int × Bool × Int),
 x.snd.fst = x_2.fst ∧
 x.snd.snd.fst = x_2.snd.fst ∧
 x.snd.snd.snd.fst = x_2.snd.snd.fst ∧
 x.snd.snd.snd.snd = x_2.snd.snd.snd ∧
 (((0 : Int) ≤ (pA x_2).fst ∧ (pA x_2).fst < (18446744073709551616 : Int)) ∧
 (0 : Int) ≤ (pA x_2).snd.fst ∧ (pA x_2).snd.fst < (18446744073709551616 : Int)) ∧
 ∀ (y : Unit),
 True →
 ifB (!saneP x_2)
 (∃ (y : Unit),
 True ∧ x_1.length = (x.fst ++ putP x.snd).length ∧ x_1 = x.fst ++ putP x.snd ∧ True)
 (ifB x.snd.snd.snd.fst
 (((x_1.length + [(6 : Int), x.snd.snd.snd.snd % (256 : Int)].length) * (1 : Nat) ≤
 (140737488355328 : Nat) ∧
 x_1.length + [(6 : Int), x.snd.snd.snd.snd % (256 : Int)].length ≤
 (140737488355328 : Nat)) ∧
 ∃ (x_3 : Int × Int × Bool),
 x.snd.fst = x_3.fst ∧
 x.snd.snd.fst = x_3.snd.fst ∧
 x.snd.snd.snd.fst = x_3.snd.snd ∧
 (((0 : Int) ≤ x_3.fst ∧ x_3.fst < (18446744073709551616 : Int)) ∧
 (0 : Int) ≤ x_3.snd.fst ∧
 x_3.snd.fst < (18446744073709551616 : Int)) ∧
 ∀ (y : Unit),
 True →
 ((-9223372036854775808 : Int) ≤ x.snd.snd.snd.snd + (8 : Int) ∧
 x.snd.snd.snd.snd + (8 : Int) ≤ (9223372036854775807 : Int)) ∧
 ((-9223372036854775808 : Int) ≤
 x.snd.snd.snd.snd + (8 : Int) - (1 : Int) ∧
 x.snd.snd.snd.snd + (8 : Int) - (1 : Int) ≤
 (9223372036854775807 : Int)) ∧
 ((0 : Int) ≤ x.snd.snd.snd.snd + (8 : Int) - (1 : Int) ∧
 (0 : Int) < (8 : Int)) ∧
 ((0 : Int) ≤
 (x.snd.snd.snd.snd + (8 : Int) - (1 : Int)) /
 (8 : Int) ∧
 (x.snd.snd.snd.snd + (8 : Int) - (1 : Int)) / (8 : Int) ≤
 (↑(bytesA x_3).length : Int)) ∧
 ((x_1.length +
 [(6 : Int),
 x.snd.snd.snd.snd % (256 : Int)].length +
 (List.drop (0 : Nat)
 (List.take
 ((x.snd.snd.snd.snd + (8 : Int) -
 (1 : Int)) /
 (8 : Int)).toNat
 (bytesA x_3))).length) *
 (1 : Nat) ≤
 (140737488355328 : Nat) ∧
 x_1.length +
 [(6 : Int),
 x.snd.snd.snd.snd % (256 : Int)].length +
 (List.drop (0 : Nat)
 (List.take
 ((x.snd.snd.snd.snd + (8 : Int) - (1 : Int)) /
 (8 : Int)).toNat
 (bytesA x_3))).length ≤
 (140737488355328 : Nat)) ∧
 ∃ (y : Unit),
 True ∧
 x_1.length +
 [(6 : Int),
 x.snd.snd.snd.snd % (256 : Int)].length +
 (List.drop (0 : Nat)
 (List.take
 ((x.snd.snd.snd.snd + (8 : Int) -
 (1 : Int)) /
 (8 : Int)).toNat
 (bytesA x_3))).length =
 (x.fst ++ putP x.snd).length ∧
 x_1 ++
 [(6 : Int),
 x.snd.snd.snd.snd % (256 : Int)] ++
 List.drop (0 : Nat)
 (List.take
 ((x.snd.snd.snd.snd + (8 : Int) -
 (1 : Int)) /
 (8 : Int)).toNat
 (bytesA x_3)) =
 x.fst ++ putP x.snd ∧
 True)
 (((x_1.length + [(4 : Int), x.snd.snd.snd.snd % (256 : Int)].length) * (1 : Nat) ≤
 (140737488355328 : Nat) ∧
 x_1.length + [(4 : Int), x.snd.snd.snd.snd % (256 : Int)].length ≤
 (140737488355328 : Nat)) ∧
 ∃ (x_3 : Int × Int × Bool),
 x.snd.fst = x_3.fst ∧
 x.snd.snd.fst = x_3.snd.fst ∧
 x.snd.snd.snd.fst = x_3.snd.snd ∧
 (((0 : Int) ≤ x_3.fst ∧ x_3.fst < (18446744073709551616 : Int)) ∧
 (0 : Int) ≤ x_3.snd.fst ∧
 x_3.snd.fst < (18446744073709551616 : Int)) ∧
 ∀ (y : Unit),
 True →
 ((-9223372036854775808 : Int) ≤ x.snd.snd.snd.snd + (8 : Int) ∧
 x.snd.snd.snd.snd + (8 : Int) ≤ (9223372036854775807 : Int)) ∧
 ((-9223372036854775808 : Int) ≤
 x.snd.snd.snd.snd + (8 : Int) - (1 : Int) ∧
 x.snd.snd.snd.snd + (8 : Int) - (1 : Int) ≤
 (9223372036854775807 : Int)) ∧
 ((0 : Int) ≤ x.snd.snd.snd.snd + (8 : Int) - (1 : Int) ∧
 (0 : Int) < (8 : Int)) ∧
 ((0 : Int) ≤
 (x.snd.snd.snd.snd + (8 : Int) - (1 : Int)) /
 (8 : Int) ∧
 (x.snd.snd.snd.snd + (8 : Int) - (1 : Int)) / (8 : Int) ≤
 (↑(bytesA x_3).length : Int)) ∧
 ((x_1.length +
 [(4 : Int),
 x.snd.snd.snd.snd % (256 : Int)].length +
 (List.drop (0 : Nat)
 (List.take
 ((x.snd.snd.snd.snd + (8 : Int) -
 (1 : Int)) /
 (8 : Int)).toNat
 (bytesA x_3))).length) *
 (1 : Nat) ≤
 (140737488355328 : Nat) ∧
 x_1.length +
 [(4 : Int),
 x.snd.snd.snd.snd % (256 : Int)].length +
 (List.drop (0 : Nat)
 (List.take
 ((x.snd.snd.snd.snd + (8 : Int) - (1 : Int)) /
 (8 : Int)).toNat
 (bytesA x_3))).length ≤
 (140737488355328 : Nat)) ∧
 ∃ (y : Unit),
 True ∧
 x_1.length +
 [(4 : Int),
 x.snd.snd.snd.snd % (256 : Int)].length +
 (List.drop (0 : Nat)
 (List.take
 ((x.snd.snd.snd.snd + (8 : Int) -
 (1 : Int)) /
 (8 : Int)).toNat
 (bytesA x_3))).length =
 (x.fst ++ putP x.snd).length ∧
 x_1 ++
 [(4 : Int),
 x.snd.snd.snd.snd % (256 : Int)] ++
 List.drop (0 : Nat)
 (List.take
 ((x.snd.snd.snd.snd + (8 : Int) -
 (1 : Int)) /
 (8 : Int)).toNat
 (bytesA x_3)) =
 x.fst ++ putP x.snd ∧
 True))
theorem o_put : owes Try.prog (tab W1) LqW 1 73 Try.f73 PutS = T_put := by kernel_rfl
def T_get : Prop :=
 ∀ (x : List Int),
 (∀ (x_1 : Int), List.Mem x_1 x → (0 : Int) ≤ x_1 ∧ x_1 ≤ (255 : Int)) ∧ x.length ≤ most →
 ifB (decide ((↑x.length : Int) < (2 : Int)))
 (∃ (y : Unit),
 True ∧
 (0 : Int) = (getP x).fst.fst ∧
 (0 : Int) = (getP x).fst.snd.fst ∧
 false = (getP x).fst.snd.snd.fst ∧
 (0 : Int) = (getP x).fst.snd.snd.snd ∧
 (0 : Int) = (getP x).snd.fst ∧ (6 : Int) = (getP x).snd.snd ∧ True)
 (((0 : Int) ≤ (0 : Int) ∧ (0 : Int) < (↑x.length : Int)) ∧
 ifB (!decide (x.getD (0 : Nat) (0 : Int) = (4 : Int)))
 (((0 : Int) ≤ (0 : Int) ∧ (0 : Int) < (↑x.length : Int)) ∧
 ifB (!decide (x.getD (0 : Nat) (0 : Int) = (6 : Int)))
 (∃ (y : Unit),
 True ∧
 (0 : Int) = (getP x).fst.fst ∧
 (0 : Int) = (getP x).fst.snd.fst ∧
 false = (getP x).fst.snd.snd.fst ∧
 (0 : Int) = (getP x).fst.snd.snd.snd ∧
 (0 : Int) = (getP x).snd.fst ∧ (5 : Int) = (getP x).snd.snd ∧ True)
 (((0 : Int) ≤ (1 : Int) ∧ (1 : Int) < (↑x.length : Int)) ∧
 ((0 : Int) ≤ (0 : Int) ∧ (0 : Int) < (↑x.length : Int)) ∧
 ∃ (x_1 : Bool),
 decide (x.getD (0 : Nat) (0 : Int) = (6 : Int)) = x_1 ∧
 True ∧
 ∀ (y : Unit),
 True →
 ifB (decide ((↑(wd x_1) : Int) < x.getD (1 : Nat) (0 : Int)))
 (∃ (y : Unit),
 True ∧
 (0 : Int) = (getP x).fst.fst ∧
 (0 : Int) = (getP x).fst.snd.fst ∧
 false = (getP x).fst.snd.snd.fst ∧
 (0 : Int) = (getP x).fst.snd.snd.snd ∧
 (0 : Int) = (getP x).snd.fst ∧ (1 : Int) = (getP x).snd.snd ∧ True)
 (((-9223372036854775808 : Int) ≤ x.getD (1 : Nat) (0 : Int) + (8 : Int) ∧
 x.getD (1 : Nat) (0 : Int) + (8 : Int) ≤ (9223372036854775807 : Int)) ∧
 ((-9223372036854775808 : Int) ≤ x.getD (1 : Nat) (0 : Int) + (8 : Int) - (1 : Int) ∧
 x.getD (1 : Nat) (0 : Int) + (8 : Int) - (1 : Int) ≤ (9223372036854775807 : Int)) ∧
 ((0 : Int) ≤ x.getD (1 : Nat) (0 : Int) + (8 : Int) - (1 : Int) ∧
 (0 : Int) < (8 : Int)) ∧
 ((-9223372036854775808 : Int) ≤
 (2 : Int) + (x.getD (1 : Nat) (0 : Int) + (8 : Int) - (1 : Int)) / (8 : Int) ∧
 (2 : Int) + (x.getD (1 : Nat) (0 : Int) + (8 : Int) - (1 : Int)) / (8 : Int) ≤
 (9223372036854775807 : Int)) ∧
 ifB
 (decide
 ((↑x.length : Int) <
 (2 : Int) +
 (x.getD (1 : Nat) (0 : Int) + (8 : Int) - (1 : Int)) / (8 : Int)))
 (∃ (y : Unit),
 True ∧
 (0 : Int) = (getP x).fst.fst ∧
 (0 : Int) = (getP x).fst.snd.fst ∧
 false = (getP x).fst.snd.snd.fst ∧
 (0 : Int) = (getP x).fst.snd.snd.snd ∧
 (0 : Int) = (getP x).snd.fst ∧ (6 : Int) = (getP x).snd.snd ∧ True)
 (((0 : Int) ≤ (↑(wd x_1) : Int) ∧ (0 : Int) < (8 : Int)) ∧
 ((0 : Int) ≤ (↑(wd x_1) : Int) / (8 : Int) ∧
 (↑(wd x_1) : Int) / (8 : Int) ≤ (↑(wd x_1) : Int) / (8 : Int) ∧
 (↑(wd x_1) : Int) / (8 : Int) ≤ (140737488355328 : Int) ∧
 (↑(wd x_1) : Int) / (8 : Int) * (1 : Int) ≤ (140737488355328 : Int)) ∧
 ((0 : Int) ≤ (2 : Int) ∧
 (2 : Int) ≤
 (2 : Int) +
 (x.getD (1 : Nat) (0 : Int) + (8 : Int) - (1 : Int)) / (8 : Int) ∧
 (2 : Int) +
 (x.getD (1 : Nat) (0 : Int) + (8 : Int) - (1 : Int)) / (8 : Int) ≤
 (↑x.length : Int)) ∧
 ∃ (x_2 : List Int),
 ((↑(wd x_1) : Int) / (8 : Int)).toNat = x_2.length ∧
 mid (List.replicate ((↑(wd x_1) : Int) / (8 : Int)).toNat (0 : Int))
 (0 : Nat)
 (List.take
 (min
 (List.drop (2 : Nat)
 (List.take
 ((2 : Int) +
 (x.getD (1 : Nat) (0 : Int) + (8 : Int) -
 (1 : Int)) /
 (8 : Int)).toNat
 x)).length
 ((↑(wd x_1) : Int) / (8 : Int)).toNat)
 (List.drop (2 : Nat)
 (List.take
 ((2 : Int) +
 (x.getD (1 : Nat) (0 : Int) + (8 : Int) - (1 : Int)) /
 (8 : Int)).toNat
 x))) =
 x_2 ∧
 (∀ (x : Int), List.Mem x x_2 → (0 : Int) ≤ x ∧ x ≤ (255 : Int)) ∧
 ∀ (y : Unit),
 True →
 ∃ (x_3 : Int × Int × Bool × Int),
 (fromE x_2).fst.fst = x_3.fst ∧
 (fromE x_2).fst.snd.fst = x_3.snd.fst ∧
 (fromE x_2).fst.snd.snd = x_3.snd.snd.fst ∧
 x.getD (1 : Nat) (0 : Int) = x_3.snd.snd.snd ∧
 (((0 : Int) ≤ (pA x_3).fst ∧
 (pA x_3).fst < (18446744073709551616 : Int)) ∧
 (0 : Int) ≤ (pA x_3).snd.fst ∧
 (pA x_3).snd.fst <
 (18446744073709551616 : Int)) ∧
 ∀ (y : Unit),
 True →
 ifB (saneP x_3)
 (∃ (y : Unit),
 True ∧
 (fromE x_2).fst.fst = (getP x).fst.fst ∧
 (fromE x_2).fst.snd.fst =
 (getP x).fst.snd.fst ∧
 (fromE x_2).fst.snd.snd =
 (getP x).fst.snd.snd.fst ∧
 x.getD (1 : Nat) (0 : Int) =
 (getP x).fst.snd.snd.snd ∧
 (2 : Int) +
 (x.getD (1 : Nat)
 (0 : Int) +
 (8 : Int) -
 (1 : Int)) /
 (8 : Int) =
 (getP x).snd.fst ∧
 (0 : Int) = (getP x).snd.snd ∧
 True)
 (∃ (y : Unit),
 True ∧
 (0 : Int) = (getP x).fst.fst ∧
 (0 : Int) = (getP x).fst.snd.fst ∧
 false = (getP x).fst.snd.snd.fst ∧
 (0 : Int) =
 (getP x).fst.snd.snd.snd ∧
 (0 : Int) = (getP x).snd.fst ∧
 (1 : Int) = (getP x).snd.snd ∧
 True)))))
 (((0 : Int) ≤ (1 : Int) ∧ (1 : Int) < (↑x.length : Int)) ∧
 ((0 : Int) ≤ (0 : Int) ∧ (0 : Int) < (↑x.length : Int)) ∧
 ∃ (x_1 : Bool),
 decide (x.getD (0 : Nat) (0 : Int) = (6 : Int)) = x_1 ∧
 True ∧
 ∀ (y : Unit),
 True →
 ifB (decide ((↑(wd x_1) : Int) < x.getD (1 : Nat) (0 : Int)))
 (∃ (y : Unit),
 True ∧
 (0 : Int) = (getP x).fst.fst ∧
 (0 : Int) = (getP x).fst.snd.fst ∧
 false = (getP x).fst.snd.snd.fst ∧
 (0 : Int) = (getP x).fst.snd.snd.snd ∧
 (0 : Int) = (getP x).snd.fst ∧ (1 : Int) = (getP x).snd.snd ∧ True)
 (((-9223372036854775808 : Int) ≤ x.getD (1 : Nat) (0 : Int) + (8 : Int) ∧
 x.getD (1 : Nat) (0 : Int) + (8 : Int) ≤ (9223372036854775807 : Int)) ∧
 ((-9223372036854775808 : Int) ≤ x.getD (1 : Nat) (0 : Int) + (8 : Int) - (1 : Int) ∧
 x.getD (1 : Nat) (0 : Int) + (8 : Int) - (1 : Int) ≤ (9223372036854775807 : Int)) ∧
 ((0 : Int) ≤ x.getD (1 : Nat) (0 : Int) + (8 : Int) - (1 : Int) ∧ (0 : Int) < (8 : Int)) ∧
 ((-9223372036854775808 : Int) ≤
 (2 : Int) + (x.getD (1 : Nat) (0 : Int) + (8 : Int) - (1 : Int)) / (8 : Int) ∧
 (2 : Int) + (x.getD (1 : Nat) (0 : Int) + (8 : Int) - (1 : Int)) / (8 : Int) ≤
 (9223372036854775807 : Int)) ∧
 ifB
 (decide
 ((↑x.length : Int) <
 (2 : Int) + (x.getD (1 : Nat) (0 : Int) + (8 : Int) - (1 : Int)) / (8 : Int)))
 (∃ (y : Unit),
 True ∧
 (0 : Int) = (getP x).fst.fst ∧
 (0 : Int) = (getP x).fst.snd.fst ∧
 false = (getP x).fst.snd.snd.fst ∧
 (0 : Int) = (getP x).fst.snd.snd.snd ∧
 (0 : Int) = (getP x).snd.fst ∧ (6 : Int) = (getP x).snd.snd ∧ True)
 (((0 : Int) ≤ (↑(wd x_1) : Int) ∧ (0 : Int) < (8 : Int)) ∧
 ((0 : Int) ≤ (↑(wd x_1) : Int) / (8 : Int) ∧
 (↑(wd x_1) : Int) / (8 : Int) ≤ (↑(wd x_1) : Int) / (8 : Int) ∧
 (↑(wd x_1) : Int) / (8 : Int) ≤ (140737488355328 : Int) ∧
 (↑(wd x_1) : Int) / (8 : Int) * (1 : Int) ≤ (140737488355328 : Int)) ∧
 ((0 : Int) ≤ (2 : Int) ∧
 (2 : Int) ≤
 (2 : Int) +
 (x.getD (1 : Nat) (0 : Int) + (8 : Int) - (1 : Int)) / (8 : Int) ∧
 (2 : Int) +
 (x.getD (1 : Nat) (0 : Int) + (8 : Int) - (1 : Int)) / (8 : Int) ≤
 (↑x.length : Int)) ∧
 ∃ (x_2 : List Int),
 ((↑(wd x_1) : Int) / (8 : Int)).toNat = x_2.length ∧
 mid (List.replicate ((↑(wd x_1) : Int) / (8 : Int)).toNat (0 : Int))
 (0 : Nat)
 (List.take
 (min
 (List.drop (2 : Nat)
 (List.take
 ((2 : Int) +
 (x.getD (1 : Nat) (0 : Int) + (8 : Int) - (1 : Int)) /
 (8 : Int)).toNat
 x)).length
 ((↑(wd x_1) : Int) / (8 : Int)).toNat)
 (List.drop (2 : Nat)
 (List.take
 ((2 : Int) +
 (x.getD (1 : Nat) (0 : Int) + (8 : Int) - (1 : Int)) /
 (8 : Int)).toNat
 x))) =
 x_2 ∧
 (∀ (x : Int), List.Mem x x_2 → (0 : Int) ≤ x ∧ x ≤ (255 : Int)) ∧
 ∀ (y : Unit),
 True →
 ∃ (x_3 : Int × Int × Bool × Int),
 (fromE x_2).fst.fst = x_3.fst ∧
 (fromE x_2).fst.snd.fst = x_3.snd.fst ∧
 (fromE x_2).fst.snd.snd = x_3.snd.snd.fst ∧
 x.getD (1 : Nat) (0 : Int) = x_3.snd.snd.snd ∧
 (((0 : Int) ≤ (pA x_3).fst ∧
 (pA x_3).fst < (18446744073709551616 : Int)) ∧
 (0 : Int) ≤ (pA x_3).snd.fst ∧
 (pA x_3).snd.fst < (18446744073709551616 : Int)) ∧
 ∀ (y : Unit),
 True →
 ifB (saneP x_3)
 (∃ (y : Unit),
 True ∧
 (fromE x_2).fst.fst = (getP x).fst.fst ∧
 (fromE x_2).fst.snd.fst =
 (getP x).fst.snd.fst ∧
 (fromE x_2).fst.snd.snd =
 (getP x).fst.snd.snd.fst ∧
 x.getD (1 : Nat) (0 : Int) =
 (getP x).fst.snd.snd.snd ∧
 (2 : Int) +
 (x.getD (1 : Nat) (0 : Int) +
 (8 : Int) -
 (1 : Int)) /
 (8 : Int) =
 (getP x).snd.fst ∧
 (0 : Int) = (getP x).snd.snd ∧
 True)
 (∃ (y : Unit),
 True ∧
 (0 : Int) = (getP x).fst.fst ∧
 (0 : Int) = (getP x).fst.snd.fst ∧
 false = (getP x).fst.snd.snd.fst ∧
 (0 : Int) = (getP x).fst.snd.snd.snd ∧
 (0 : Int) = (getP x).snd.fst ∧
 (1 : Int) = (getP x).snd.snd ∧
 True)))))
theorem o_get : owes Try.prog (tab W1) LqW 1 45 Try.f45 GetS = T_get := by kernel_rfl
def T_good : Prop :=
 ∀ (x : Int × Int × Bool × Int × Int),
 ((0 : Int) ≤ (pA (rP x)).fst ∧ (pA (rP x)).fst < (18446744073709551616 : Int)) ∧
 (0 : Int) ≤ (pA (rP x)).snd.fst ∧ (pA (rP x)).snd.fst < (18446744073709551616 : Int) →
 ifB (decide ((0 : Int) ≤ x.snd.snd.snd.snd))
 (ifB (decide (x.snd.snd.snd.snd ≤ (65535 : Int)))
 (∃ (x_1 : Int × Int × Bool × Int),
 x.fst = x_1.fst ∧
 x.snd.fst = x_1.snd.fst ∧
 x.snd.snd.fst = x_1.snd.snd.fst ∧
 x.snd.snd.snd.fst = x_1.snd.snd.snd ∧
 (((0 : Int) ≤ (pA x_1).fst ∧ (pA x_1).fst < (18446744073709551616 : Int)) ∧
 (0 : Int) ≤ (pA x_1).snd.fst ∧ (pA x_1).snd.fst < (18446744073709551616 : Int)) ∧
 ∀ (y : Unit), True → ∃ (y : Unit), True ∧ saneP x_1 = goodR x ∧ True)
 (∃ (y : Unit), True ∧ false = goodR x ∧ True))
 (∃ (y : Unit), True ∧ false = goodR x ∧ True)
theorem o_good : owes Try.prog (tab W1) LqW 0 43 Try.f43 GoodS = T_good := by kernel_rfl
def T_putroute : Prop :=
 ∀ (x : List Int × Rt),
 x.fst.length ≤ most ∧
 ((0 : Int) ≤ (pA (rP x.snd)).fst ∧ (pA (rP x.snd)).fst < (18446744073709551616 : Int)) ∧
 (0 : Int) ≤ (pA (rP x.snd)).snd.fst ∧ (pA (rP x.snd)).snd.fst < (18446744073709551616 : Int) →
 ∃ (x_1 : Int × Int × Bool × Int × Int),
 x.snd.fst = x_1.fst ∧
 x.snd.snd.fst = x_1.snd.fst ∧
 x.snd.snd.snd.fst = x_1.snd.snd.fst ∧
 x.snd.snd.snd.snd.fst = x_1.snd.snd.snd.fst ∧
 x.snd.snd.snd.snd.snd = x_1.snd.snd.snd.snd ∧
 (((0 : Int) ≤ (pA (rP x_1)).fst ∧ (pA (rP x_1)).fst < (18446744073709551616 : Int)) ∧
 (0 : Int) ≤ (pA (rP x_1)).snd.fst ∧ (pA (rP x_1)).snd.fst < (18446744073709551616 : Int)) ∧
 ∀ (y : Unit),
 True →
 ifB (!goodR x_1)
 (∃ (x_2 : List Int),
 x.fst.length = x_2.length ∧
 x.fst = x_2 ∧
 x_2.length ≤ most ∧
 ∀ (y : Unit),
 True →
 ∃ (y : Unit),
 True ∧
 x_2.length = (x.fst ++ putR x.snd).length ∧ x_2 = x.fst ++ putR x.snd ∧ True)
 ((0 : Int) ≤ (8 : Int) ∧
 (∃ (x_2 : List Int × Pf),
 x.fst.length = x_2.fst.length ∧
 x.snd.fst = x_2.snd.fst ∧
 x.snd.snd.fst = x_2.snd.snd.fst ∧
 x.snd.snd.snd.fst = x_2.snd.snd.snd.fst ∧
 x.snd.snd.snd.snd.fst = x_2.snd.snd.snd.snd ∧
 x.fst = x_2.fst ∧
 (x_2.fst.length ≤ most ∧
 ((0 : Int) ≤ (pA x_2.snd).fst ∧
 (pA x_2.snd).fst < (18446744073709551616 : Int)) ∧
 (0 : Int) ≤ (pA x_2.snd).snd.fst ∧
 (pA x_2.snd).snd.fst < (18446744073709551616 : Int)) ∧
 ∀ (y : Unit),
 True →
 (((x_2.fst ++ putP x_2.snd).length +
 [x.snd.snd.snd.snd.snd / (256 : Int) % (256 : Int),
 x.snd.snd.snd.snd.snd % (256 : Int)].length) *
 (1 : Nat) ≤
 (140737488355328 : Nat) ∧
 (x_2.fst ++ putP x_2.snd).length +
 [x.snd.snd.snd.snd.snd / (256 : Int) % (256 : Int),
 x.snd.snd.snd.snd.snd % (256 : Int)].length ≤
 (140737488355328 : Nat)) ∧
 ∃ (y : Unit),
 True ∧
 (x_2.fst ++ putP x_2.snd).length +
 [x.snd.snd.snd.snd.snd / (256 : Int) % (256 : Int),
 x.snd.snd.snd.snd.snd % (256 : Int)].length =
 (x.fst ++ putR x.snd).length ∧
 x_2.fst ++ putP x_2.snd ++
 [x.snd.snd.snd.snd.snd / (256 : Int) % (256 : Int),
 x.snd.snd.snd.snd.snd % (256 : Int)] =
 x.fst ++ putR x.snd ∧
 True) ∧
 ∃ (x_2 : List Int × Pf),
 x.fst.length = x_2.fst.length ∧
 x.snd.fst = x_2.snd.fst ∧
 x.snd.snd.fst = x_2.snd.snd.fst ∧
 x.snd.snd.snd.fst = x_2.snd.snd.snd.fst ∧
 x.snd.snd.snd.snd.fst = x_2.snd.snd.snd.snd ∧
 x.fst = x_2.fst ∧
 (x_2.fst.length ≤ most ∧
 ((0 : Int) ≤ (pA x_2.snd).fst ∧
 (pA x_2.snd).fst < (18446744073709551616 : Int)) ∧
 (0 : Int) ≤ (pA x_2.snd).snd.fst ∧
 (pA x_2.snd).snd.fst < (18446744073709551616 : Int)) ∧
 ∀ (y : Unit),
 True →
 (((x_2.fst ++ putP x_2.snd).length +
 [x.snd.snd.snd.snd.snd / (256 : Int) % (256 : Int),
 x.snd.snd.snd.snd.snd % (256 : Int)].length) *
 (1 : Nat) ≤
 (140737488355328 : Nat) ∧
 (x_2.fst ++ putP x_2.snd).length +
 [x.snd.snd.snd.snd.snd / (256 : Int) % (256 : Int),
 x.snd.snd.snd.snd.snd % (256 : Int)].length ≤
 (140737488355328 : Nat)) ∧
 ∃ (y : Unit),
 True ∧
 (x_2.fst ++ putP x_2.snd).length +
 [x.snd.snd.snd.snd.snd / (256 : Int) % (256 : Int),
 x.snd.snd.snd.snd.snd % (256 : Int)].length =
 (x.fst ++ putR x.snd).length ∧
 x_2.fst ++ putP x_2.snd ++
 [x.snd.snd.snd.snd.snd / (256 : Int) % (256 : Int),
 x.snd.snd.snd.snd.snd % (256 : Int)] =
 x.fst ++ putR x.snd ∧
 True)
theorem o_putroute : owes Try.prog (tab W2) LqW 0 44 Try.f44 PutRouteS = T_putroute := by kernel_rfl
def T_getroute : Prop :=
 ∀ (x : List Int),
 (∀ (x_1 : Int), List.Mem x_1 x → (0 : Int) ≤ x_1 ∧ x_1 ≤ (255 : Int)) ∧ x.length ≤ most →
 ∃ (x_1 : List Int),
 x.length = x_1.length ∧
 x = x_1 ∧
 ((∀ (x : Int), List.Mem x x_1 → (0 : Int) ≤ x ∧ x ≤ (255 : Int)) ∧ x_1.length ≤ most) ∧
 ∀ (y : Unit),
 True →
 ifB (!decide ((getP x_1).snd.snd = (0 : Int)))
 (∃ (y : Unit),
 True ∧
 (0 : Int) = (getR x).fst.fst ∧
 (0 : Int) = (getR x).fst.snd.fst ∧
 false = (getR x).fst.snd.snd.fst ∧
 (0 : Int) = (getR x).fst.snd.snd.snd.fst ∧
 (0 : Int) = (getR x).fst.snd.snd.snd.snd ∧
 (0 : Int) = (getR x).snd.fst ∧ (getP x_1).snd.snd = (getR x).snd.snd ∧ True)
 (((0 : Int) ≤ (getP x_1).snd.fst ∧ (getP x_1).snd.fst ≤ (↑x.length : Int)) ∧
 ifB (decide ((↑(x.length - (getP x_1).snd.fst.toNat) : Int) < (2 : Int)))
 (∃ (y : Unit),
 True ∧
 (0 : Int) = (getR x).fst.fst ∧
 (0 : Int) = (getR x).fst.snd.fst ∧
 false = (getR x).fst.snd.snd.fst ∧
 (0 : Int) = (getR x).fst.snd.snd.snd.fst ∧
 (0 : Int) = (getR x).fst.snd.snd.snd.snd ∧
 (0 : Int) = (getR x).snd.fst ∧ (6 : Int) = (getR x).snd.snd ∧ True)
 (((0 : Int) ≤ (0 : Int) ∧ (0 : Int) < (↑(x.length - (getP x_1).snd.fst.toNat) : Int)) ∧
 (0 : Int) ≤ (8 : Int) ∧
 ((-9223372036854775808 : Int) ≤
 x.getD ((getP x_1).snd.fst.toNat + (0 : Nat)) (0 : Int) * (256 : Int) ∧
 x.getD ((getP x_1).snd.fst.toNat + (0 : Nat)) (0 : Int) * (256 : Int) ≤
 (9223372036854775807 : Int)) ∧
 ((0 : Int) ≤ (1 : Int) ∧ (1 : Int) < (↑(x.length - (getP x_1).snd.fst.toNat) : Int)) ∧
 ((-9223372036854775808 : Int) ≤ (getP x_1).snd.fst + (2 : Int) ∧
 (getP x_1).snd.fst + (2 : Int) ≤ (9223372036854775807 : Int)) ∧
 ∃ (y : Unit),
 True ∧
 (getP x_1).fst.fst = (getR x).fst.fst ∧
 (getP x_1).fst.snd.fst = (getR x).fst.snd.fst ∧
 (getP x_1).fst.snd.snd.fst = (getR x).fst.snd.snd.fst ∧
 (getP x_1).fst.snd.snd.snd = (getR x).fst.snd.snd.snd.fst ∧
 bits BinOp.or IntKind.i64
 (x.getD ((getP x_1).snd.fst.toNat + (0 : Nat)) (0 : Int) *
 (256 : Int))
 (x.getD ((getP x_1).snd.fst.toNat + (1 : Nat)) (0 : Int)) =
 (getR x).fst.snd.snd.snd.snd ∧
 (getP x_1).snd.fst + (2 : Int) = (getR x).snd.fst ∧
 (0 : Int) = (getR x).snd.snd ∧ True))
theorem o_getroute : owes Try.prog (tab W2) LqW 0 46 Try.f46 GetRouteS = T_getroute := by kernel_rfl
def T_putall : Prop :=
 ∀ (x : List Rt),
 (x.length ≤ (5000 : Nat) ∧
 ∀ (r : Int × Int × Bool × Int × Int),
 List.Mem r x →
 ((0 : Int) ≤ (pA (rP r)).fst ∧ (pA (rP r)).fst < (18446744073709551616 : Int)) ∧
 (0 : Int) ≤ (pA (rP r)).snd.fst ∧ (pA (rP r)).snd.fst < (18446744073709551616 : Int)) →
 ∃ (I : Int × List Int → Prop),
 ∃ (μ : Int × List Int → Nat),
 (∃ (x : Int × List Int), I x ∧ (0 : Int) = x.fst ∧ (0 : Nat) = x.snd.length ∧ [] = x.snd ∧ True) ∧
 ∀ (x_1 : Int × List Int),
 I x_1 →
 ifB (decide (x_1.fst < (↑x.length : Int)))
 (((0 : Int) ≤ x_1.fst ∧ x_1.fst < (↑x.length : Int)) ∧
 ∃ (x_2 : List Int × Rt),
 x_1.snd.length = x_2.fst.length ∧
 (x.getD x_1.fst.toNat ((0 : Int), (0 : Int), false, (0 : Int), (0 : Int))).fst = x_2.snd.fst ∧
 (x.getD x_1.fst.toNat ((0 : Int), (0 : Int), false, (0 : Int), (0 : Int))).snd.fst =
 x_2.snd.snd.fst ∧
 (x.getD x_1.fst.toNat ((0 : Int), (0 : Int), false, (0 : Int), (0 : Int))).snd.snd.fst =
 x_2.snd.snd.snd.fst ∧
 (x.getD x_1.fst.toNat ((0 : Int), (0 : Int), false, (0 : Int), (0 : Int))).snd.snd.snd.fst =
 x_2.snd.snd.snd.snd.fst ∧
 (x.getD x_1.fst.toNat
 ((0 : Int), (0 : Int), false, (0 : Int), (0 : Int))).snd.snd.snd.snd =
 x_2.snd.snd.snd.snd.snd ∧
 x_1.snd = x_2.fst ∧
 (x_2.fst.length ≤ most ∧
 ((0 : Int) ≤ (pA (rP x_2.snd)).fst ∧
 (pA (rP x_2.snd)).fst < (18446744073709551616 : Int)) ∧
 (0 : Int) ≤ (pA (rP x_2.snd)).snd.fst ∧
 (pA (rP x_2.snd)).snd.fst < (18446744073709551616 : Int)) ∧
 ∀ (y : Unit),
 True →
 ((-9223372036854775808 : Int) ≤ x_1.fst + (1 : Int) ∧
 x_1.fst + (1 : Int) ≤ (9223372036854775807 : Int)) ∧
 ∃ (y : Int × List Int),
 I y ∧
 μ y < μ x_1 ∧
 x_1.fst + (1 : Int) = y.fst ∧
 (x_2.fst ++ putR x_2.snd).length = y.snd.length ∧
 x_2.fst ++ putR x_2.snd = y.snd ∧ True)
 (∃ (y : Unit), True ∧ x_1.snd.length = (putAllL x).length ∧ x_1.snd = putAllL x ∧ True)
theorem o_putall : owes Try.prog (tab W3) LqW 0 77 Try.f77 PutAllS = T_putall := by kernel_rfl
def T_getall : Prop :=
 ∀ (x : List Int),
 (∀ (x_1 : Int), List.Mem x_1 x → (0 : Int) ≤ x_1 ∧ x_1 ≤ (255 : Int)) ∧ x.length ≤ most →
 ∃ (I : Nat × Nat × List Rt → Prop),
 ∃ (μ : Nat × Nat × List Rt → Nat),
 (∃ (x_1 : Nat × Nat × List Rt),
 I x_1 ∧
 (0 : Nat) = x_1.fst ∧ x.length = x_1.snd.fst ∧ (0 : Nat) = x_1.snd.snd.length ∧ [] = x_1.snd.snd ∧ True) ∧
 ∀ (x_1 : Nat × Nat × List Rt),
 I x_1 →
 ifB (decide ((0 : Int) < (↑(x_1.snd.fst - x_1.fst) : Int)))
 (∃ (x_2 : List Int),
 x_1.snd.fst - x_1.fst = x_2.length ∧
 List.drop x_1.fst (List.take x_1.snd.fst x) = x_2 ∧
 ((∀ (x : Int), List.Mem x x_2 → (0 : Int) ≤ x ∧ x ≤ (255 : Int)) ∧ x_2.length ≤ most) ∧
 ∀ (y : Unit),
 True →
 ifB (!decide ((getR x_2).snd.snd = (0 : Int)))
 (∃ (y : Unit),
 True ∧
 (0 : Nat) = (getAllL x).fst.length ∧
 (getR x_2).snd.snd = (getAllL x).snd ∧ [] = (getAllL x).fst ∧ True)
 (((0 : Int) ≤ (getR x_2).snd.fst ∧
 (getR x_2).snd.fst ≤ (↑(x_1.snd.fst - x_1.fst) : Int)) ∧
 ((x_1.snd.snd.length +
 [((getR x_2).fst.fst, (getR x_2).fst.snd.fst, (getR x_2).fst.snd.snd.fst,
 (getR x_2).fst.snd.snd.snd.fst,
 (getR x_2).fst.snd.snd.snd.snd)].length) *
 (40 : Nat) ≤
 (140737488355328 : Nat) ∧
 x_1.snd.snd.length +
 [((getR x_2).fst.fst, (getR x_2).fst.snd.fst, (getR x_2).fst.snd.snd.fst,
 (getR x_2).fst.snd.snd.snd.fst, (getR x_2).fst.snd.snd.snd.snd)].length ≤
 (140737488355328 : Nat)) ∧
 ∃ (y : Nat × Nat × List Rt),
 I y ∧
 μ y < μ x_1 ∧
 x_1.fst + (getR x_2).snd.fst.toNat = y.fst ∧
 x_1.snd.fst = y.snd.fst ∧
 x_1.snd.snd.length +
 [((getR x_2).fst.fst, (getR x_2).fst.snd.fst,
 (getR x_2).fst.snd.snd.fst, (getR x_2).fst.snd.snd.snd.fst,
 (getR x_2).fst.snd.snd.snd.snd)].length =
 y.snd.snd.length ∧
 x_1.snd.snd ++
 [((getR x_2).fst.fst, (getR x_2).fst.snd.fst,
 (getR x_2).fst.snd.snd.fst, (getR x_2).fst.snd.snd.snd.fst,
 (getR x_2).fst.snd.snd.snd.snd)] =
 y.snd.snd ∧
 True))
 (∃ (y : Unit),
 True ∧
 x_1.snd.snd.length = (getAllL x).fst.length ∧
 (0 : Int) = (getAllL x).snd ∧ x_1.snd.snd = (getAllL x).fst ∧ True)
theorem o_getall : owes Try.prog (tab W3) LqW 1 48 Try.f48 GetAllS = T_getall := by kernel_rfl
end Sp
