/- Printed by sx.py, a program of this work: what the walks of some functions owe. -/
import Derived.Test.YthnhbnakpmkppaaSpW
import Derived.ProofKit
set_option linter.all false
set_option maxRecDepth 100000
namespace Sp
open Go Go.Proofs Sx
def T_bytes : Prop :=
 ∀ (x : Int × Int × Bool),
 ((0 : Int) ≤ x.fst ∧ x.fst < (18446744073709551616 : Int)) ∧
 (0 : Int) ≤ x.snd.fst ∧ x.snd.fst < (18446744073709551616 : Int) →
 ∃ (x_1 : Int × Int × Bool),
 x.fst = x_1.fst ∧
 x.snd.fst = x_1.snd.fst ∧
 x.snd.snd = x_1.snd.snd ∧
 (((0 : Int) ≤ x_1.fst ∧ x_1.fst < (18446744073709551616 : Int)) ∧
 (0 : Int) ≤ x_1.snd.fst ∧ x_1.snd.fst < (18446744073709551616 : Int)) ∧
 ∀ (y : Unit),
 True →
 ∃ (x_2 : Bool),
 x.snd.snd = x_2 ∧
 True ∧
 ∀ (y : Unit),
 True →
 ((0 : Int) ≤ (↑(wd x_2) : Int) ∧ (0 : Int) < (8 : Int)) ∧
 ((0 : Int) ≤ (↑(wd x_2) : Int) / (8 : Int) ∧
 (↑(wd x_2) : Int) / (8 : Int) ≤ (↑(wd x_2) : Int) / (8 : Int) ∧
 (↑(wd x_2) : Int) / (8 : Int) ≤ (140737488355328 : Int) ∧
 (↑(wd x_2) : Int) / (8 : Int) * (1 : Int) ≤ (140737488355328 : Int)) ∧
 ∃ (I : Int × List Int → Prop),
 ∃ (μ : Int × List Int → Nat),
 (∃ (x : Int × List Int),
 I x ∧
 (0 : Int) = x.fst ∧
 List.replicate ((↑(wd x_2) : Int) / (8 : Int)).toNat (0 : Int) = x.snd ∧
 True) ∧
 ∀ (x_3 : Int × List Int),
 I x_3 →
 ifB (decide (x_3.fst < (↑((↑(wd x_2) : Int) / (8 : Int)).toNat : Int)))
 (((-9223372036854775808 : Int) ≤ x_3.fst * (8 : Int) ∧
 x_3.fst * (8 : Int) ≤ (9223372036854775807 : Int)) ∧
 ((0 : Int) ≤ x_3.fst * (8 : Int) ∧ (0 : Int) < (64 : Int)) ∧
 ifB (decide (x_3.fst * (8 : Int) / (64 : Int) = (0 : Int)))
 (((0 : Int) ≤ x_3.fst * (8 : Int) ∧ (0 : Int) < (64 : Int)) ∧
 ((-9223372036854775808 : Int) ≤
 (56 : Int) - x_3.fst * (8 : Int) % (64 : Int) ∧
 (56 : Int) - x_3.fst * (8 : Int) % (64 : Int) ≤
 (9223372036854775807 : Int)) ∧
 (0 : Int) ≤
 ((56 : Int) - x_3.fst * (8 : Int) % (64 : Int)) %
 (18446744073709551616 : Int) ∧
 ((0 : Int) ≤ x_3.fst ∧
 x_3.fst < (↑((↑(wd x_2) : Int) / (8 : Int)).toNat : Int)) ∧
 ((-9223372036854775808 : Int) ≤ x_3.fst + (1 : Int) ∧
 x_3.fst + (1 : Int) ≤ (9223372036854775807 : Int)) ∧
 ∃ (y : Int × List Int),
 I y ∧
 μ y < μ x_3 ∧
 x_3.fst + (1 : Int) = y.fst ∧
 x_3.snd.set x_3.fst.toNat
 ((canA x_1).fst /
 (2 : Int) ^
 min
 (((56 : Int) -
 x_3.fst * (8 : Int) %
 (64 : Int)) %
 (18446744073709551616 :
 Int)).toNat
 (64 : Nat) %
 (256 : Int)) =
 y.snd ∧
 True)
 (ifB (decide (x_3.fst * (8 : Int) / (64 : Int) = (1 : Int)))
 (((0 : Int) ≤ x_3.fst * (8 : Int) ∧ (0 : Int) < (64 : Int)) ∧
 ((-9223372036854775808 : Int) ≤
 (56 : Int) - x_3.fst * (8 : Int) % (64 : Int) ∧
 (56 : Int) - x_3.fst * (8 : Int) % (64 : Int) ≤
 (9223372036854775807 : Int)) ∧
 (0 : Int) ≤
 ((56 : Int) - x_3.fst * (8 : Int) % (64 : Int)) %
 (18446744073709551616 : Int) ∧
 ((0 : Int) ≤ x_3.fst ∧
 x_3.fst <
 (↑((↑(wd x_2) : Int) / (8 : Int)).toNat : Int)) ∧
 ((-9223372036854775808 : Int) ≤ x_3.fst + (1 : Int) ∧
 x_3.fst + (1 : Int) ≤ (9223372036854775807 : Int)) ∧
 ∃ (y : Int × List Int),
 I y ∧
 μ y < μ x_3 ∧
 x_3.fst + (1 : Int) = y.fst ∧
 x_3.snd.set x_3.fst.toNat
 ((canA x_1).snd.fst /
 (2 : Int) ^
 min
 (((56 : Int) -
 x_3.fst * (8 : Int) %
 (64 : Int)) %
 (18446744073709551616 :
 Int)).toNat
 (64 : Nat) %
 (256 : Int)) =
 y.snd ∧
 True)
 False))
 (∃ (y : Unit),
 True ∧
 ((↑(wd x_2) : Int) / (8 : Int)).toNat = (bytesA x).length ∧
 x_3.snd = bytesA x ∧ True)
theorem o_bytes : owes Try.prog (tab W0) LqW 0 99 Try.f99 BytesS = T_bytes := by kernel_rfl
def T_from : Prop :=
 ∀ (x : List Int),
 (∀ (x_1 : Int), List.Mem x_1 x → (0 : Int) ≤ x_1 ∧ x_1 ≤ (255 : Int)) →
 ifB (!decide ((↑x.length : Int) = (16 : Int)))
 (ifB (!decide ((↑x.length : Int) = (4 : Int)))
 (∃ (y : Unit),
 True ∧
 (0 : Int) = (fromE x).fst.fst ∧
 (0 : Int) = (fromE x).fst.snd.fst ∧ false = (fromE x).fst.snd.snd ∧ (4 : Int) = (fromE x).snd ∧ True)
 (∃ (I : Int × Int × Int → Prop),
 ∃ (μ : Int × Int × Int → Nat),
 (∃ (x : Int × Int × Int), I x ∧ (0 : Int) = x.fst ∧ (0 : Int) = x.snd.fst ∧ (0 : Int) = x.snd.snd ∧ True) ∧
 ∀ (x_1 : Int × Int × Int),
 I x_1 →
 ifB (decide (x_1.fst < (↑x.length : Int)))
 (((0 : Int) ≤ x_1.fst ∧ x_1.fst < (↑x.length : Int)) ∧
 ((-9223372036854775808 : Int) ≤ x_1.fst * (8 : Int) ∧
 x_1.fst * (8 : Int) ≤ (9223372036854775807 : Int)) ∧
 ((0 : Int) ≤ x_1.fst * (8 : Int) ∧ (0 : Int) < (64 : Int)) ∧
 ifB (decide (x_1.fst * (8 : Int) / (64 : Int) = (0 : Int)))
 (((0 : Int) ≤ x_1.fst * (8 : Int) ∧ (0 : Int) < (64 : Int)) ∧
 ((-9223372036854775808 : Int) ≤ (56 : Int) - x_1.fst * (8 : Int) % (64 : Int) ∧
 (56 : Int) - x_1.fst * (8 : Int) % (64 : Int) ≤ (9223372036854775807 : Int)) ∧
 (0 : Int) ≤
 ((56 : Int) - x_1.fst * (8 : Int) % (64 : Int)) % (18446744073709551616 : Int) ∧
 ifB (decide (x_1.fst * (8 : Int) / (64 : Int) = (0 : Int)))
 (((-9223372036854775808 : Int) ≤ x_1.fst + (1 : Int) ∧
 x_1.fst + (1 : Int) ≤ (9223372036854775807 : Int)) ∧
 ∃ (y : Int × Int × Int),
 I y ∧
 μ y < μ x_1 ∧
 x_1.fst + (1 : Int) = y.fst ∧
 bits BinOp.or IntKind.u64 x_1.snd.fst
 (x.getD x_1.fst.toNat (0 : Int) *
 (2 : Int) ^
 min
 (((56 : Int) - x_1.fst * (8 : Int) % (64 : Int)) %
 (18446744073709551616 : Int)).toNat
 (64 : Nat) %
 (18446744073709551616 : Int)) =
 y.snd.fst ∧
 x_1.snd.snd = y.snd.snd ∧ True)
 (ifB (decide (x_1.fst * (8 : Int) / (64 : Int) = (1 : Int)))
 (((-9223372036854775808 : Int) ≤ x_1.fst + (1 : Int) ∧
 x_1.fst + (1 : Int) ≤ (9223372036854775807 : Int)) ∧
 ∃ (y : Int × Int × Int),
 I y ∧
 μ y < μ x_1 ∧
 x_1.fst + (1 : Int) = y.fst ∧
 x_1.snd.fst = y.snd.fst ∧
 bits BinOp.or IntKind.u64 x_1.snd.fst
 (x.getD x_1.fst.toNat (0 : Int) *
 (2 : Int) ^
 min
 (((56 : Int) - x_1.fst * (8 : Int) % (64 : Int)) %
 (18446744073709551616 : Int)).toNat
 (64 : Nat) %
 (18446744073709551616 : Int)) =
 y.snd.snd ∧
 True)
 False))
 (ifB (decide (x_1.fst * (8 : Int) / (64 : Int) = (1 : Int)))
 (((0 : Int) ≤ x_1.fst * (8 : Int) ∧ (0 : Int) < (64 : Int)) ∧
 ((-9223372036854775808 : Int) ≤ (56 : Int) - x_1.fst * (8 : Int) % (64 : Int) ∧
 (56 : Int) - x_1.fst * (8 : Int) % (64 : Int) ≤ (9223372036854775807 : Int)) ∧
 (0 : Int) ≤
 ((56 : Int) - x_1.fst * (8 : Int) % (64 : Int)) % (18446744073709551616 : Int) ∧
 ifB (decide (x_1.fst * (8 : Int) / (64 : Int) = (0 : Int)))
 (((-9223372036854775808 : Int) ≤ x_1.fst + (1 : Int) ∧
 x_1.fst + (1 : Int) ≤ (9223372036854775807 : Int)) ∧
 ∃ (y : Int × Int × Int),
 I y ∧
 μ y < μ x_1 ∧
 x_1.fst + (1 : Int) = y.fst ∧
 bits BinOp.or IntKind.u64 x_1.snd.snd
 (x.getD x_1.fst.toNat (0 : Int) *
 (2 : Int) ^
 min
 (((56 : Int) - x_1.fst * (8 : Int) % (64 : Int)) %
 (18446744073709551616 : Int)).toNat
 (64 : Nat) %
 (18446744073709551616 : Int)) =
 y.snd.fst ∧
 x_1.snd.snd = y.snd.snd ∧ True)
 (ifB (decide (x_1.fst * (8 : Int) / (64 : Int) = (1 : Int)))
 (((-9223372036854775808 : Int) ≤ x_1.fst + (1 : Int) ∧
 x_1.fst + (1 : Int) ≤ (9223372036854775807 : Int)) ∧
 ∃ (y : Int × Int × Int),
 I y ∧
 μ y < μ x_1 ∧
 x_1.fst + (1 : Int) = y.fst ∧
 x_1.snd.fst = y.snd.fst ∧
 bits BinOp.or IntKind.u64 x_1.snd.snd
 (x.getD x_1.fst.toNat (0 : Int) *
 (2 : Int) ^
 min
 (((56 : Int) - x_1.fst * (8 : Int) % (64 : Int)) %
 (18446744073709551616 : Int)).toNat
 (64 : Nat) %
 (18446744073709551616 : Int)) =
 y.snd.snd ∧
 True)
 False))
 False))
 (∃ (y : Unit),
 True ∧
 x_1.snd.fst = (fromE x).fst.fst ∧
 x_1.snd.snd = (fromE x).fst.snd.fst ∧
 decide ((↑x.length : Int) = (16 : Int)) = (fromE x).fst.snd.snd ∧
 (0 : Int) = (fromE x).snd ∧ True)))
 (∃ (I : Int × Int × Int → Prop),
 ∃ (μ : Int × Int × Int → Nat),
 (∃ (x : Int × Int × Int), I x ∧ (0 : Int) = x.fst ∧ (0 : Int) = x.snd.fst ∧ (0 : Int) = x.snd.snd ∧ True) ∧
 ∀ (x_1 : Int × Int × Int),
 I x_1 →
 ifB (decide (x_1.fst < (↑x.length : Int)))
 (((0 : Int) ≤ x_1.fst ∧ x_1.fst < (↑x.length : Int)) ∧
 ((-9223372036854775808 : Int) ≤ x_1.fst * (8 : Int) ∧
 x_1.fst * (8 : Int) ≤ (9223372036854775807 : Int)) ∧
 ((0 : Int) ≤ x_1.fst * (8 : Int) ∧ (0 : Int) < (64 : Int)) ∧
 ifB (decide (x_1.fst * (8 : Int) / (64 : Int) = (0 : Int)))
 (((0 : Int) ≤ x_1.fst * (8 : Int) ∧ (0 : Int) < (64 : Int)) ∧
 ((-9223372036854775808 : Int) ≤ (56 : Int) - x_1.fst * (8 : Int) % (64 : Int) ∧
 (56 : Int) - x_1.fst * (8 : Int) % (64 : Int) ≤ (9223372036854775807 : Int)) ∧
 (0 : Int) ≤
 ((56 : Int) - x_1.fst * (8 : Int) % (64 : Int)) % (18446744073709551616 : Int) ∧
 ifB (decide (x_1.fst * (8 : Int) / (64 : Int) = (0 : Int)))
 (((-9223372036854775808 : Int) ≤ x_1.fst + (1 : Int) ∧
 x_1.fst + (1 : Int) ≤ (9223372036854775807 : Int)) ∧
 ∃ (y : Int × Int × Int),
 I y ∧
 μ y < μ x_1 ∧
 x_1.fst + (1 : Int) = y.fst ∧
 bits BinOp.or IntKind.u64 x_1.snd.fst
 (x.getD x_1.fst.toNat (0 : Int) *
 (2 : Int) ^
 min
 (((56 : Int) - x_1.fst * (8 : Int) % (64 : Int)) %
 (18446744073709551616 : Int)).toNat
 (64 : Nat) %
 (18446744073709551616 : Int)) =
 y.snd.fst ∧
 x_1.snd.snd = y.snd.snd ∧ True)
 (ifB (decide (x_1.fst * (8 : Int) / (64 : Int) = (1 : Int)))
 (((-9223372036854775808 : Int) ≤ x_1.fst + (1 : Int) ∧
 x_1.fst + (1 : Int) ≤ (9223372036854775807 : Int)) ∧
 ∃ (y : Int × Int × Int),
 I y ∧
 μ y < μ x_1 ∧
 x_1.fst + (1 : Int) = y.fst ∧
 x_1.snd.fst = y.snd.fst ∧
 bits BinOp.or IntKind.u64 x_1.snd.fst
 (x.getD x_1.fst.toNat (0 : Int) *
 (2 : Int) ^
 min
 (((56 : Int) - x_1.fst * (8 : Int) % (64 : Int)) %
 (18446744073709551616 : Int)).toNat
 (64 : Nat) %
 (18446744073709551616 : Int)) =
 y.snd.snd ∧
 True)
 False))
 (ifB (decide (x_1.fst * (8 : Int) / (64 : Int) = (1 : Int)))
 (((0 : Int) ≤ x_1.fst * (8 : Int) ∧ (0 : Int) < (64 : Int)) ∧
 ((-9223372036854775808 : Int) ≤ (56 : Int) - x_1.fst * (8 : Int) % (64 : Int) ∧
 (56 : Int) - x_1.fst * (8 : Int) % (64 : Int) ≤ (9223372036854775807 : Int)) ∧
 (0 : Int) ≤
 ((56 : Int) - x_1.fst * (8 : Int) % (64 : Int)) % (18446744073709551616 : Int) ∧
 ifB (decide (x_1.fst * (8 : Int) / (64 : Int) = (0 : Int)))
 (((-9223372036854775808 : Int) ≤ x_1.fst + (1 : Int) ∧
 x_1.fst + (1 : Int) ≤ (9223372036854775807 : Int)) ∧
 ∃ (y : Int × Int × Int),
 I y ∧
 μ y < μ x_1 ∧
 x_1.fst + (1 : Int) = y.fst ∧
 bits BinOp.or IntKind.u64 x_1.snd.snd
 (x.getD x_1.fst.toNat (0 : Int) *
 (2 : Int) ^
 min
 (((56 : Int) - x_1.fst * (8 : Int) % (64 : Int)) %
 (18446744073709551616 : Int)).toNat
 (64 : Nat) %
 (18446744073709551616 : Int)) =
 y.snd.fst ∧
 x_1.snd.snd = y.snd.snd ∧ True)
 (ifB (decide (x_1.fst * (8 : Int) / (64 : Int) = (1 : Int)))
 (((-9223372036854775808 : Int) ≤ x_1.fst + (1 : Int) ∧
 x_1.fst + (1 : Int) ≤ (9223372036854775807 : Int)) ∧
 ∃ (y : Int × Int × Int),
 I y ∧
 μ y < μ x_1 ∧
 x_1.fst + (1 : Int) = y.fst ∧
 x_1.snd.fst = y.snd.fst ∧
 bits BinOp.or IntKind.u64 x_1.snd.snd
 (x.getD x_1.fst.toNat (0 : Int) *
 (2 : Int) ^
 min
 (((56 : Int) - x_1.fst * (8 : Int) % (64 : Int)) %
 (18446744073709551616 : Int)).toNat
 (64 : Nat) %
 (18446744073709551616 : Int)) =
 y.snd.snd ∧
 True)
 False))
 False))
 (∃ (y : Unit),
 True ∧
 x_1.snd.fst = (fromE x).fst.fst ∧
 x_1.snd.snd = (fromE x).fst.snd.fst ∧
 decide ((↑x.length : Int) = (16 : Int)) = (fromE x).fst.snd.snd ∧
 (0 : Int) = (fromE x).snd ∧ True))
theorem o_from : owes Try.prog (tab W0) LqW 1 56 Try.f56 FromS = T_from := by kernel_rfl
def T_clone : Prop :=
 ∀ (x : List Int),
 x.length ≤ most →
 (x.length = (0 : Nat) → ∃ (y : Unit), True ∧ (0 : Nat) = x.length ∧ [] = x ∧ True) ∧
 (((0 : Nat) + x.length) * (1 : Nat) ≤ (140737488355328 : Nat) ∧ (0 : Nat) + x.length ≤ (140737488355328 : Nat)) ∧
 ∃ (y : Unit), True ∧ (0 : Nat) + x.length = x.length ∧ [] ++ x = x ∧ True
theorem o_clone : owes Try.prog (tab W0) LqW 0 98 Try.f98 (CloneS u8K) = T_clone := by kernel_rfl
def T_put : Prop :=
 ∀ (x : List Int × Pf),
 x.fst.length ≤ most ∧
 ((0 : Int) ≤ (pA x.snd).fst ∧ (pA x.snd).fst < (18446744073709551616 : Int)) ∧
 (0 : Int) ≤ (pA x.snd).snd.fst ∧ (pA x.snd).snd.fst < (18446744073709551616 : Int) →
 ∃ (x_1 : List Int),
 x.fst.length = x_1.length ∧
 x.fst = x_1 ∧
 x_1.length ≤ most ∧
 ∀ (y : Unit),
 True →
 ∃ (x_2 : Int × Int × Bool × Int),
 x.snd.fst = x_2.fst ∧
 x.snd.snd.fst = x_2.snd.fst ∧
 x.snd.snd.snd.fst = x_2.snd.snd.fst ∧
 x.snd.snd.snd.snd = x_2.snd.snd.snd ∧
 (((0 : Int) ≤ (pA x_2).fst ∧ (pA x_2).fst < (18446744073709551616 : Int)) ∧
 (0 : Int) ≤ (pA x_2).snd.fst ∧ (pA x_2).snd.fst < (18446744073709551616 : Int)) ∧
 ∀ (y : Unit),
 True →
 ifB (!saneP x_2)
 (∃ (y : Unit),
 True ∧ x_1.length = (x.fst ++ putP x.snd).length ∧ x_1 = x.fst ++ putP x.snd ∧ True)
 (ifB x.snd.snd.snd.fst
 (((x_1.length + [(6 : Int), x.snd.snd.snd.snd % (256 : Int)].length) * (1 : Nat) ≤
 (140737488355328 : Nat) ∧
 x_1.length + [(6 : Int), x.snd.snd.snd.snd % (256 : Int)].length ≤
 (140737488355328 : Nat)) ∧
 ∃ (x_3 : Int × Int × Bool),
 x.snd.fst = x_3.fst ∧
 x.snd.snd.fst = x_3.snd.fst ∧
 x.snd.snd.snd.fst = x_3.snd.snd ∧
 (((0 : Int) ≤ x_3.fst ∧ x_3.fst < (18446744073709551616 : Int)) ∧
 (0 : Int) ≤ x_3.snd.fst ∧
 x_3.snd.fst < (18446744073709551616 : Int)) ∧
 ∀ (y : Unit),
 True →
 ((-9223372036854775808 : Int) ≤ x.snd.snd.snd.snd + (8 : Int) ∧
 x.snd.snd.snd.snd + (8 : Int) ≤ (9223372036854775807 : Int)) ∧
 ((-9223372036854775808 : Int) ≤
 x.snd.snd.snd.snd + (8 : Int) - (1 : Int) ∧
 x.snd.snd.snd.snd + (8 : Int) - (1 : Int) ≤
 (9223372036854775807 : Int)) ∧
 ((0 : Int) ≤ x.snd.snd.snd.snd + (8 : Int) - (1 : Int) ∧
 (0 : Int) < (8 : Int)) ∧
 ((0 : Int) ≤
 (x.snd.snd.snd.snd + (8 : Int) - (1 : Int)) /
 (8 : Int) ∧
 (x.snd.snd.snd.snd + (8 : Int) - (1 : Int)) / (8 : Int) ≤
 (↑(bytesA x_3).length : Int)) ∧
 ((x_1.length +
 [(6 : Int),
 x.snd.snd.snd.snd % (256 : Int)].length +
 (List.drop (0 : Nat)
 (List.take
 ((x.snd.snd.snd.snd + (8 : Int) -
 (1 : Int)) /
 (8 : Int)).toNat
 (bytesA x_3))).length) *
 (1 : Nat) ≤
 (140737488355328 : Nat) ∧
 x_1.length +
 [(6 : Int),
 x.snd.snd.snd.snd % (256 : Int)].length +
 (List.drop (0 : Nat)
 (List.take
 ((x.snd.snd.snd.snd + (8 : Int) - (1 : Int)) /
 (8 : Int)).toNat
 (bytesA x_3))).length ≤
 (140737488355328 : Nat)) ∧
 ∃ (y : Unit),
 True ∧
 x_1.length +
 [(6 : Int),
 x.snd.snd.snd.snd % (256 : Int)].length +
 (List.drop (0 : Nat)
 (List.take
 ((x.snd.snd.snd.snd + (8 : Int) -
 (1 : Int)) /
 (8 : Int)).toNat
 (bytesA x_3))).length =
 (x.fst ++ putP x.snd).length ∧
 x_1 ++
 [(6 : Int),
 x.snd.snd.snd.snd % (256 : Int)] ++
 List.drop (0 : Nat)
 (List.take
 ((x.snd.snd.snd.snd + (8 : Int) -
 (1 : Int)) /
 (8 : Int)).toNat
 (bytesA x_3)) =
 x.fst ++ putP x.snd ∧
 True)
 (((x_1.length + [(4 : Int), x.snd.snd.snd.snd % (256 : Int)].length) * (1 : Nat) ≤
 (140737488355328 : Nat) ∧
 x_1.length + [(4 : Int), x.snd.snd.snd.snd % (256 : Int)].length ≤
 (140737488355328 : Nat)) ∧
 ∃ (x_3 : Int × Int × Bool),
 x.snd.fst = x_3.fst ∧
 x.snd.snd.fst = x_3.snd.fst ∧
 x.snd.snd.snd.fst = x_3.snd.snd ∧
 (((0 : Int) ≤ x_3.fst ∧ x_3.fst < (18446744073709551616 : Int)) ∧
 (0 : Int) ≤ x_3.snd.fst ∧
 x_3.snd.fst < (18446744073709551616 : Int)) ∧
 ∀ (y : Unit),
 True →
 ((-9223372036854775808 : Int) ≤ x.snd.snd.snd.snd + (8 : Int) ∧
 x.snd.snd.snd.snd + (8 : Int) ≤ (9223372036854775807 : Int)) ∧
 ((-9223372036854775808 : Int) ≤
 x.snd.snd.snd.snd + (8 : Int) - (1 : Int) ∧
 x.snd.snd.snd.snd + (8 : Int) - (1 : Int) ≤
 (9223372036854775807 : Int)) ∧
 ((0 : Int) ≤ x.snd.snd.snd.snd + (8 : Int) - (1 : Int) ∧
 (0 : Int) < (8 : Int)) ∧
 ((0 : Int) ≤
 (x.snd.snd.snd.snd + (8 : Int) - (1 : Int)) /
 (8 : Int) ∧
 (x.snd.snd.snd.snd + (8 : Int) - (1 : Int)) / (8 : Int) ≤
 (↑(bytesA x_3).length : Int)) ∧
 ((x_1.length +
 [(4 : Int),
 x.snd.snd.snd.snd % (256 : Int)].length +
 (List.drop (0 : Nat)
 (List.take
 ((x.snd.snd.snd.snd + (8 : Int) -
 (1 : Int)) /
 (8 : Int)).toNat
 (bytesA x_3))).length) *
 (1 : Nat) ≤
 (140737488355328 : Nat) ∧
 x_1.length +
 [(4 : Int),
 x.snd.snd.snd.snd % (256 : Int)].length +
 (List.drop (0 : Nat)
 (List.take
 ((x.snd.snd.snd.snd + (8 : Int) - (1 : Int)) /
 (8 : Int)).toNat
 (bytesA x_3))).length ≤
 (140737488355328 : Nat)) ∧
 ∃ (y : Unit),
 True ∧
 x_1.length +
 [(4 : Int),
 x.snd.snd.snd.snd % (256 : Int)].length +
 (List.drop (0 : Nat)
 (List.take
 ((x.snd.snd.snd.snd + (8 : Int) -
 (1 : Int)) /
 (8 : Int)).toNat
 (bytesA x_3))).length =
 (x.fst ++ putP x.snd).length ∧
 x_1 ++
 [(4 : Int),
 x.snd.snd.snd.snd % (256 : Int)] ++
 List.drop (0 : Nat)
 (List.take
 ((x.snd.snd.snd.snd + (8 : Int) -
 (1 : Int)) /
 (8 : Int)).toNat
 (bytesA x_3)) =
 x.fst ++ putP x.snd ∧
 True))
theorem o_put : owes Try.prog (tab W1) LqW 1 51 Try.f51 PutS = T_put := by kernel_rfl
def T_good : Prop :=
 ∀ (x : Int × Int × Bool × Int × Int),
 ((0 : Int) ≤ (pA (rP x)).fst ∧ (pA (rP x)).fst < (18446744073709551616 : Int)) ∧
 (0 : Int) ≤ (pA (rP x)).snd.fst ∧ (pA (rP x)).snd.fst < (18446744073709551616 : Int) →
 ifB (decide ((0 : Int) ≤ x.snd.snd.snd.snd))
 (ifB (decide (x.snd.snd.snd.snd ≤ (65535 : Int)))
 (∃ (x_1 : Int × Int × Bool × Int),
 x.fst = x_1.fst ∧
 x.snd.fst = x_1.snd.fst ∧
 x.snd.snd.fst = x_1.snd.snd.fst ∧
 x.snd.snd.snd.fst = x_1.snd.snd.snd ∧
 (((0 : Int) ≤ (pA x_1).fst ∧ (pA x_1).fst < (18446744073709551616 : Int)) ∧
 (0 : Int) ≤ (pA x_1).snd.fst ∧ (pA x_1).snd.fst < (18446744073709551616 : Int)) ∧
 ∀ (y : Unit), True → ∃ (y : Unit), True ∧ saneP x_1 = goodR x ∧ True)
 (∃ (y : Unit), True ∧ false = goodR x ∧ True))
 (∃ (y : Unit), True ∧ false = goodR x ∧ True)
theorem o_good : owes Try.prog (tab W1) LqW 0 87 Try.f87 GoodS = T_good := by kernel_rfl
end Sp
