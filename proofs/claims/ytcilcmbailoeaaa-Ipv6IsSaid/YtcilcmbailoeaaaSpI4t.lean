/- Printed by sx.py, a program of this work: what the walks of some functions owe. -/
import Derived.Test.YtcilcmbailoeaaaSpI4
import Derived.ProofKit
set_option linter.all false
set_option maxRecDepth 100000
namespace Sp
open Go Go.Proofs Sx
def T_fold : Prop :=
 ∀ (x : Int),
 (0 : Int) ≤ x ∧ x < (18446744073709551616 : Int) →
 ∃ (I : Int → Prop),
 ∃ (μ : Int → Nat),
 (∃ (x_1 : Int), I x_1 ∧ x = x_1 ∧ True) ∧
 ∀ (x_1 : Int),
 I x_1 →
 ifB (decide ((65535 : Int) < x_1))
 ((0 : Int) ≤ (16 : Int) ∧
 ∃ (y : Int),
 I y ∧
 μ y < μ x_1 ∧
 (bits BinOp.and IntKind.u64 x_1 (65535 : Int) + x_1 / (65536 : Int)) %
 (18446744073709551616 : Int) =
 y ∧
 True)
 (∃ (y : Unit), True ∧ x_1 % (65536 : Int) = foldZ x ∧ True)
theorem o_fold : owes Try.prog (tab W1) LqI 0 98 Try.f98 FoldS = T_fold := by kernel_rfl
def T_bclone : Prop :=
 ∀ (x : List Int),
 x.length ≤ most →
 (x.length = (0 : Nat) → ∃ (y : Unit), True ∧ (0 : Nat) = x.length ∧ [] = x ∧ True) ∧
 (((0 : Nat) + x.length) * (1 : Nat) ≤ (140737488355328 : Nat) ∧ (0 : Nat) + x.length ≤ (140737488355328 : Nat)) ∧
 ∃ (y : Unit), True ∧ (0 : Nat) + x.length = x.length ∧ [] ++ x = x ∧ True
theorem o_bclone : owes Try.prog (tab W1) LqI 0 99 Try.f99 (CloneS u8K) = T_bclone := by kernel_rfl
def T_sum : Prop :=
 ∀ (x : List Int),
 (∀ (x_1 : Int), List.Mem x_1 x → (0 : Int) ≤ x_1 ∧ x_1 ≤ (255 : Int)) ∧ x.length ≤ most →
 ∃ (I : Nat × Nat × Int → Prop),
 ∃ (μ : Nat × Nat × Int → Nat),
 (∃ (x_1 : Nat × Nat × Int),
 I x_1 ∧ (0 : Nat) = x_1.fst ∧ x.length = x_1.snd.fst ∧ (0 : Int) = x_1.snd.snd ∧ True) ∧
 ∀ (x_1 : Nat × Nat × Int),
 I x_1 →
 ifB (decide ((1 : Int) < (↑(x_1.snd.fst - x_1.fst) : Int)))
 (((0 : Int) ≤ (0 : Int) ∧ (0 : Int) < (↑(x_1.snd.fst - x_1.fst) : Int)) ∧
 (0 : Int) ≤ (8 : Int) ∧
 ((0 : Int) ≤ (1 : Int) ∧ (1 : Int) < (↑(x_1.snd.fst - x_1.fst) : Int)) ∧
 ((0 : Int) ≤ (2 : Int) ∧ (2 : Int) ≤ (↑(x_1.snd.fst - x_1.fst) : Int)) ∧
 ∃ (y : Nat × Nat × Int),
 I y ∧
 μ y < μ x_1 ∧
 x_1.fst + (2 : Nat) = y.fst ∧
 x_1.snd.fst = y.snd.fst ∧
 (x_1.snd.snd +
 bits BinOp.or IntKind.u64
 (x.getD (x_1.fst + (0 : Nat)) (0 : Int) * (256 : Int) %
 (18446744073709551616 : Int))
 (x.getD (x_1.fst + (1 : Nat)) (0 : Int))) %
 (18446744073709551616 : Int) =
 y.snd.snd ∧
 True)
 (ifB (decide ((0 : Int) < (↑(x_1.snd.fst - x_1.fst) : Int)))
 (((0 : Int) ≤ (0 : Int) ∧ (0 : Int) < (↑(x_1.snd.fst - x_1.fst) : Int)) ∧
 (0 : Int) ≤ (8 : Int) ∧
 ∃ (x_2 : Int),
 (x_1.snd.snd +
 x.getD (x_1.fst + (0 : Nat)) (0 : Int) * (256 : Int) % (18446744073709551616 : Int)) %
 (18446744073709551616 : Int) =
 x_2 ∧
 ((0 : Int) ≤ x_2 ∧ x_2 < (18446744073709551616 : Int)) ∧
 ∀ (y : Unit),
 True →
 ∃ (y : Unit),
 True ∧ bits BinOp.xor IntKind.u16 (65535 : Int) (foldZ x_2) = sumZ x ∧ True)
 (∃ (x_2 : Int),
 x_1.snd.snd = x_2 ∧
 ((0 : Int) ≤ x_2 ∧ x_2 < (18446744073709551616 : Int)) ∧
 ∀ (y : Unit),
 True →
 ∃ (y : Unit), True ∧ bits BinOp.xor IntKind.u16 (65535 : Int) (foldZ x_2) = sumZ x ∧ True))
theorem o_sum : owes Try.prog (tab I0) LqI 2 32 Try.f32 SumS = T_sum := by kernel_rfl
def T_word : Prop :=
 ∀ (x : List Int),
 (∀ (x_1 : Int), List.Mem x_1 x → (0 : Int) ≤ x_1 ∧ x_1 ≤ (255 : Int)) ∧ (2 : Nat) ≤ x.length →
 ((0 : Int) ≤ (0 : Int) ∧ (0 : Int) < (↑x.length : Int)) ∧
 (0 : Int) ≤ (8 : Int) ∧
 ((0 : Int) ≤ (1 : Int) ∧ (1 : Int) < (↑x.length : Int)) ∧
 ∃ (y : Unit),
 True ∧
 bits BinOp.or IntKind.u16 (x.getD (0 : Nat) (0 : Int) * (256 : Int) % (65536 : Int))
 (x.getD (1 : Nat) (0 : Int)) =
 wordZ x (0 : Nat) ∧
 True
theorem o_word : owes Try.prog (tab I0) LqI 0 120 Try.f120 WordS = T_word := by kernel_rfl
def T_check : Prop :=
 ∀ (x : List Int),
 (∀ (x_1 : Int), List.Mem x_1 x → (0 : Int) ≤ x_1 ∧ x_1 ≤ (255 : Int)) ∧ x.length ≤ most →
 ∃ (x_1 : List Int),
 x.length = x_1.length ∧
 x = x_1 ∧
 ((∀ (x : Int), List.Mem x x_1 → (0 : Int) ≤ x ∧ x ≤ (255 : Int)) ∧ x_1.length ≤ most) ∧
 ∀ (y : Unit),
 True → ∃ (y : Unit), True ∧ decide (sumZ x_1 = (0 : Int)) = decide (sumZ x = (0 : Int)) ∧ True
theorem o_check : owes Try.prog (tab I1) LqI 0 34 Try.f34 CheckS = T_check := by kernel_rfl
def T_patch : Prop :=
 ∀ (x : Int × Int × Int),
 ((0 : Int) ≤ x.fst ∧ x.fst ≤ (65535 : Int)) ∧
 ((0 : Int) ≤ x.snd.fst ∧ x.snd.fst ≤ (65535 : Int)) ∧ (0 : Int) ≤ x.snd.snd ∧ x.snd.snd ≤ (65535 : Int) →
 ∃ (x_1 : Int),
 ((bits BinOp.xor IntKind.u16 (65535 : Int) x.fst + bits BinOp.xor IntKind.u16 (65535 : Int) x.snd.fst) %
 (18446744073709551616 : Int) +
 x.snd.snd) %
 (18446744073709551616 : Int) =
 x_1 ∧
 ((0 : Int) ≤ x_1 ∧ x_1 < (18446744073709551616 : Int)) ∧
 ∀ (y : Unit),
 True →
 ∃ (y : Unit),
 True ∧ bits BinOp.xor IntKind.u16 (65535 : Int) (foldZ x_1) = patchZ x.fst x.snd.fst x.snd.snd ∧ True
theorem o_patch : owes Try.prog (tab I1) LqI 0 35 Try.f35 PatchS = T_patch := by kernel_rfl
def T_fill : Prop :=
 ∀ (x : List Int × Int),
 (∀ (x_1 : Int), List.Mem x_1 x.fst → (0 : Int) ≤ x_1 ∧ x_1 ≤ (255 : Int)) ∧
 x.fst.length ≤ most ∧ (-9223372036854775808 : Int) ≤ x.snd ∧ x.snd ≤ (9223372036854775807 : Int) →
 ∃ (x_1 : List Int),
 x.fst.length = x_1.length ∧
 x.fst = x_1 ∧
 x_1.length ≤ most ∧
 ∀ (y : Unit),
 True →
 ifB (decide (x.snd < (0 : Int)))
 (∃ (y : Unit),
 True ∧
 x_1.length = (fillZ x.fst x.snd).length ∧
 false = fillB x.fst x.snd ∧ x_1 = fillZ x.fst x.snd ∧ True)
 (ifB (decide (bits BinOp.and IntKind.i64 x.snd (1 : Int) = (1 : Int)))
 (∃ (y : Unit),
 True ∧
 x_1.length = (fillZ x.fst x.snd).length ∧
 false = fillB x.fst x.snd ∧ x_1 = fillZ x.fst x.snd ∧ True)
 (((-9223372036854775808 : Int) ≤ (↑x.fst.length : Int) - (1 : Int) ∧
 (↑x.fst.length : Int) - (1 : Int) ≤ (9223372036854775807 : Int)) ∧
 ifB (decide ((↑x.fst.length : Int) - (1 : Int) ≤ x.snd))
 (∃ (y : Unit),
 True ∧
 x_1.length = (fillZ x.fst x.snd).length ∧
 false = fillB x.fst x.snd ∧ x_1 = fillZ x.fst x.snd ∧ True)
 (((-9223372036854775808 : Int) ≤ x.snd + (2 : Int) ∧
 x.snd + (2 : Int) ≤ (9223372036854775807 : Int)) ∧
 ((0 : Int) ≤ x.snd ∧ x.snd ≤ x.snd + (2 : Int) ∧ x.snd + (2 : Int) ≤ (↑x_1.length : Int)) ∧
 ∃ (x_2 : List Int),
 x_1.length = x_2.length ∧
 mid x_1 x.snd.toNat
 (List.replicate ((x.snd + (2 : Int)).toNat - x.snd.toNat) (0 : Int)) =
 x_2 ∧
 ((∀ (x : Int), List.Mem x x_2 → (0 : Int) ≤ x ∧ x ≤ (255 : Int)) ∧
 x_2.length ≤ most) ∧
 ∀ (y : Unit),
 True →
 (0 : Int) ≤ (8 : Int) ∧
 ((0 : Int) ≤ (0 : Int) ∧
 (0 : Int) < (↑((x.snd + (2 : Int)).toNat - x.snd.toNat) : Int)) ∧
 ((0 : Int) ≤ (1 : Int) ∧
 (1 : Int) < (↑((x.snd + (2 : Int)).toNat - x.snd.toNat) : Int)) ∧
 ∃ (y : Unit),
 True ∧
 x_1.length = (fillZ x.fst x.snd).length ∧
 true = fillB x.fst x.snd ∧
 ((mid x_1 x.snd.toNat
 (List.replicate
 ((x.snd + (2 : Int)).toNat - x.snd.toNat)
 (0 : Int))).set
 (x.snd.toNat + (0 : Nat))
 (sumZ x_2 / (256 : Int) % (256 : Int))).set
 (x.snd.toNat + (1 : Nat)) (sumZ x_2 % (256 : Int)) =
 fillZ x.fst x.snd ∧
 True)))
theorem o_fill : owes Try.prog (tab I1) LqI 0 36 Try.f36 FillS = T_fill := by kernel_rfl
def T_readh : Prop :=
 ∀ (x : List Int),
 (∀ (x_1 : Int), List.Mem x_1 x → (0 : Int) ≤ x_1 ∧ x_1 ≤ (255 : Int)) ∧ (20 : Nat) ≤ x.length →
 ((0 : Int) ≤ (0 : Int) ∧ (0 : Int) < (↑x.length : Int)) ∧
 ((-9223372036854775808 : Int) ≤ bits BinOp.and IntKind.u8 (x.getD (0 : Nat) (0 : Int)) (15 : Int) * (4 : Int) ∧
 bits BinOp.and IntKind.u8 (x.getD (0 : Nat) (0 : Int)) (15 : Int) * (4 : Int) ≤ (9223372036854775807 : Int)) ∧
 ((0 : Int) ≤ (2 : Int) ∧ (2 : Int) ≤ (↑x.length : Int)) ∧
 ((0 : Int) ≤ (8 : Int) ∧ (8 : Int) < (↑x.length : Int)) ∧
 ((0 : Int) ≤ (9 : Int) ∧ (9 : Int) < (↑x.length : Int)) ∧
 (∃ (x_1 : List Int),
 x.length - (2 : Nat) = x_1.length ∧
 List.drop (2 : Nat) (List.take x.length x) = x_1 ∧
 ((∀ (x : Int), List.Mem x x_1 → (0 : Int) ≤ x ∧ x ≤ (255 : Int)) ∧ (2 : Nat) ≤ x_1.length) ∧
 ∀ (y : Unit),
 True →
 ((0 : Int) ≤ (12 : Int) ∧ (12 : Int) ≤ (16 : Int) ∧ (16 : Int) ≤ (↑x.length : Int)) ∧
 ∃ (x_2 : List Int),
 (4 : Nat) = x_2.length ∧
 List.drop (12 : Nat) (List.take (16 : Nat) x) = x_2 ∧
 (∀ (x : Int), List.Mem x x_2 → (0 : Int) ≤ x ∧ x ≤ (255 : Int)) ∧
 ∀ (y : Unit),
 True →
 ((0 : Int) ≤ (16 : Int) ∧
 (16 : Int) ≤ (20 : Int) ∧ (20 : Int) ≤ (↑x.length : Int)) ∧
 ∃ (x_3 : List Int),
 (4 : Nat) = x_3.length ∧
 List.drop (16 : Nat) (List.take (20 : Nat) x) = x_3 ∧
 (∀ (x : Int), List.Mem x x_3 → (0 : Int) ≤ x ∧ x ≤ (255 : Int)) ∧
 ∀ (y : Unit),
 True →
 ∃ (y : Unit),
 True ∧
 bits BinOp.and IntKind.u8 (x.getD (0 : Nat) (0 : Int))
 (15 : Int) *
 (4 : Int) =
 (readH x).fst ∧
 wordZ x_1 (0 : Nat) = (readH x).snd.fst ∧
 x.getD (8 : Nat) (0 : Int) = (readH x).snd.snd.fst ∧
 x.getD (9 : Nat) (0 : Int) =
 (readH x).snd.snd.snd.fst ∧
 (fromE x_2).fst.fst =
 (readH x).snd.snd.snd.snd.fst ∧
 (fromE x_2).fst.snd.fst =
 (readH x).snd.snd.snd.snd.snd.fst ∧
 (fromE x_2).fst.snd.snd =
 (readH x).snd.snd.snd.snd.snd.snd.fst ∧
 (fromE x_3).fst.fst =
 (readH
 x).snd.snd.snd.snd.snd.snd.snd.fst ∧
 (fromE x_3).fst.snd.fst =
 (readH
 x).snd.snd.snd.snd.snd.snd.snd.snd.fst ∧
 (fromE x_3).fst.snd.snd =
 (readH
 x).snd.snd.snd.snd.snd.snd.snd.snd.snd ∧
 True) ∧
 ∃ (x_1 : List Int),
 x.length - (2 : Nat) = x_1.length ∧
 List.drop (2 : Nat) (List.take x.length x) = x_1 ∧
 ((∀ (x : Int), List.Mem x x_1 → (0 : Int) ≤ x ∧ x ≤ (255 : Int)) ∧ (2 : Nat) ≤ x_1.length) ∧
 ∀ (y : Unit),
 True →
 ((0 : Int) ≤ (12 : Int) ∧ (12 : Int) ≤ (16 : Int) ∧ (16 : Int) ≤ (↑x.length : Int)) ∧
 ∃ (x_2 : List Int),
 (4 : Nat) = x_2.length ∧
 List.drop (12 : Nat) (List.take (16 : Nat) x) = x_2 ∧
 (∀ (x : Int), List.Mem x x_2 → (0 : Int) ≤ x ∧ x ≤ (255 : Int)) ∧
 ∀ (y : Unit),
 True →
 ((0 : Int) ≤ (16 : Int) ∧
 (16 : Int) ≤ (20 : Int) ∧ (20 : Int) ≤ (↑x.length : Int)) ∧
 ∃ (x_3 : List Int),
 (4 : Nat) = x_3.length ∧
 List.drop (16 : Nat) (List.take (20 : Nat) x) = x_3 ∧
 (∀ (x : Int), List.Mem x x_3 → (0 : Int) ≤ x ∧ x ≤ (255 : Int)) ∧
 ∀ (y : Unit),
 True →
 ∃ (y : Unit),
 True ∧
 bits BinOp.and IntKind.u8 (x.getD (0 : Nat) (0 : Int))
 (15 : Int) *
 (4 : Int) =
 (readH x).fst ∧
 wordZ x_1 (0 : Nat) = (readH x).snd.fst ∧
 x.getD (8 : Nat) (0 : Int) = (readH x).snd.snd.fst ∧
 x.getD (9 : Nat) (0 : Int) =
 (readH x).snd.snd.snd.fst ∧
 (fromE x_2).fst.fst =
 (readH x).snd.snd.snd.snd.fst ∧
 (fromE x_2).fst.snd.fst =
 (readH x).snd.snd.snd.snd.snd.fst ∧
 (fromE x_2).fst.snd.snd =
 (readH x).snd.snd.snd.snd.snd.snd.fst ∧
 (fromE x_3).fst.fst =
 (readH
 x).snd.snd.snd.snd.snd.snd.snd.fst ∧
 (fromE x_3).fst.snd.fst =
 (readH
 x).snd.snd.snd.snd.snd.snd.snd.snd.fst ∧
 (fromE x_3).fst.snd.snd =
 (readH
 x).snd.snd.snd.snd.snd.snd.snd.snd.snd ∧
 True
theorem o_readh : owes Try.prog (tab I1) LqI 0 115 Try.f115 ReadHS = T_readh := by kernel_rfl
def T_parse4 : Prop :=
 ∀ (x : List Int),
 (∀ (x_1 : Int), List.Mem x_1 x → (0 : Int) ≤ x_1 ∧ x_1 ≤ (255 : Int)) →
 ifB (decide ((↑x.length : Int) < (20 : Int)))
 (∃ (y : Unit),
 True ∧
 (0 : Int) = (parse4 x).fst.fst ∧
 (0 : Int) = (parse4 x).fst.snd.fst ∧
 (0 : Int) = (parse4 x).fst.snd.snd.fst ∧
 (0 : Int) = (parse4 x).fst.snd.snd.snd.fst ∧
 (0 : Int) = (parse4 x).fst.snd.snd.snd.snd.fst ∧
 (0 : Int) = (parse4 x).fst.snd.snd.snd.snd.snd.fst ∧
 false = (parse4 x).fst.snd.snd.snd.snd.snd.snd.fst ∧
 (0 : Int) = (parse4 x).fst.snd.snd.snd.snd.snd.snd.snd.fst ∧
 (0 : Int) = (parse4 x).fst.snd.snd.snd.snd.snd.snd.snd.snd.fst ∧
 false = (parse4 x).fst.snd.snd.snd.snd.snd.snd.snd.snd.snd ∧
 (1 : Int) = (parse4 x).snd ∧ True)
 (∃ (x_1 : List Int),
 x.length = x_1.length ∧
 x = x_1 ∧
 ((∀ (x : Int), List.Mem x x_1 → (0 : Int) ≤ x ∧ x ≤ (255 : Int)) ∧ (20 : Nat) ≤ x_1.length) ∧
 ∀ (y : Unit),
 True →
 ((0 : Int) ≤ (0 : Int) ∧ (0 : Int) < (↑x.length : Int)) ∧
 (0 : Int) ≤ (4 : Int) ∧
 ifB (!decide (x.getD (0 : Nat) (0 : Int) / (16 : Int) = (4 : Int)))
 (∃ (y : Unit),
 True ∧
 (0 : Int) = (parse4 x).fst.fst ∧
 (0 : Int) = (parse4 x).fst.snd.fst ∧
 (0 : Int) = (parse4 x).fst.snd.snd.fst ∧
 (0 : Int) = (parse4 x).fst.snd.snd.snd.fst ∧
 (0 : Int) = (parse4 x).fst.snd.snd.snd.snd.fst ∧
 (0 : Int) = (parse4 x).fst.snd.snd.snd.snd.snd.fst ∧
 false = (parse4 x).fst.snd.snd.snd.snd.snd.snd.fst ∧
 (0 : Int) = (parse4 x).fst.snd.snd.snd.snd.snd.snd.snd.fst ∧
 (0 : Int) = (parse4 x).fst.snd.snd.snd.snd.snd.snd.snd.snd.fst ∧
 false = (parse4 x).fst.snd.snd.snd.snd.snd.snd.snd.snd.snd ∧
 (2 : Int) = (parse4 x).snd ∧ True)
 (ifB (decide ((readH x_1).fst < (20 : Int)))
 (∃ (y : Unit),
 True ∧
 (0 : Int) = (parse4 x).fst.fst ∧
 (0 : Int) = (parse4 x).fst.snd.fst ∧
 (0 : Int) = (parse4 x).fst.snd.snd.fst ∧
 (0 : Int) = (parse4 x).fst.snd.snd.snd.fst ∧
 (0 : Int) = (parse4 x).fst.snd.snd.snd.snd.fst ∧
 (0 : Int) = (parse4 x).fst.snd.snd.snd.snd.snd.fst ∧
 false = (parse4 x).fst.snd.snd.snd.snd.snd.snd.fst ∧
 (0 : Int) = (parse4 x).fst.snd.snd.snd.snd.snd.snd.snd.fst ∧
 (0 : Int) = (parse4 x).fst.snd.snd.snd.snd.snd.snd.snd.snd.fst ∧
 false = (parse4 x).fst.snd.snd.snd.snd.snd.snd.snd.snd.snd ∧
 (3 : Int) = (parse4 x).snd ∧ True)
 (ifB (decide ((↑x.length : Int) < (readH x_1).fst))
 (∃ (y : Unit),
 True ∧
 (0 : Int) = (parse4 x).fst.fst ∧
 (0 : Int) = (parse4 x).fst.snd.fst ∧
 (0 : Int) = (parse4 x).fst.snd.snd.fst ∧
 (0 : Int) = (parse4 x).fst.snd.snd.snd.fst ∧
 (0 : Int) = (parse4 x).fst.snd.snd.snd.snd.fst ∧
 (0 : Int) = (parse4 x).fst.snd.snd.snd.snd.snd.fst ∧
 false = (parse4 x).fst.snd.snd.snd.snd.snd.snd.fst ∧
 (0 : Int) = (parse4 x).fst.snd.snd.snd.snd.snd.snd.snd.fst ∧
 (0 : Int) = (parse4 x).fst.snd.snd.snd.snd.snd.snd.snd.snd.fst ∧
 false = (parse4 x).fst.snd.snd.snd.snd.snd.snd.snd.snd.snd ∧
 (3 : Int) = (parse4 x).snd ∧ True)
 (ifB (decide ((readH x_1).snd.fst < (readH x_1).fst))
 (∃ (y : Unit),
 True ∧
 (0 : Int) = (parse4 x).fst.fst ∧
 (0 : Int) = (parse4 x).fst.snd.fst ∧
 (0 : Int) = (parse4 x).fst.snd.snd.fst ∧
 (0 : Int) = (parse4 x).fst.snd.snd.snd.fst ∧
 (0 : Int) = (parse4 x).fst.snd.snd.snd.snd.fst ∧
 (0 : Int) = (parse4 x).fst.snd.snd.snd.snd.snd.fst ∧
 false = (parse4 x).fst.snd.snd.snd.snd.snd.snd.fst ∧
 (0 : Int) = (parse4 x).fst.snd.snd.snd.snd.snd.snd.snd.fst ∧
 (0 : Int) = (parse4 x).fst.snd.snd.snd.snd.snd.snd.snd.snd.fst ∧
 false = (parse4 x).fst.snd.snd.snd.snd.snd.snd.snd.snd.snd ∧
 (4 : Int) = (parse4 x).snd ∧ True)
 (ifB (decide ((↑x.length : Int) < (readH x_1).snd.fst))
 (∃ (y : Unit),
 True ∧
 (0 : Int) = (parse4 x).fst.fst ∧
 (0 : Int) = (parse4 x).fst.snd.fst ∧
 (0 : Int) = (parse4 x).fst.snd.snd.fst ∧
 (0 : Int) = (parse4 x).fst.snd.snd.snd.fst ∧
 (0 : Int) = (parse4 x).fst.snd.snd.snd.snd.fst ∧
 (0 : Int) = (parse4 x).fst.snd.snd.snd.snd.snd.fst ∧
 false = (parse4 x).fst.snd.snd.snd.snd.snd.snd.fst ∧
 (0 : Int) = (parse4 x).fst.snd.snd.snd.snd.snd.snd.snd.fst ∧
 (0 : Int) = (parse4 x).fst.snd.snd.snd.snd.snd.snd.snd.snd.fst ∧
 false = (parse4 x).fst.snd.snd.snd.snd.snd.snd.snd.snd.snd ∧
 (4 : Int) = (parse4 x).snd ∧ True)
 (((0 : Int) ≤ (readH x_1).fst ∧ (readH x_1).fst ≤ (↑x.length : Int)) ∧
 ∃ (x_2 : List Int),
 (readH x_1).fst.toNat - (0 : Nat) = x_2.length ∧
 List.drop (0 : Nat) (List.take (readH x_1).fst.toNat x) = x_2 ∧
 ((∀ (x : Int), List.Mem x x_2 → (0 : Int) ≤ x ∧ x ≤ (255 : Int)) ∧
 x_2.length ≤ most) ∧
 ∀ (y : Unit),
 True →
 ifB (!decide (sumZ x_2 = (0 : Int)))
 (∃ (y : Unit),
 True ∧
 (0 : Int) = (parse4 x).fst.fst ∧
 (0 : Int) = (parse4 x).fst.snd.fst ∧
 (0 : Int) = (parse4 x).fst.snd.snd.fst ∧
 (0 : Int) = (parse4 x).fst.snd.snd.snd.fst ∧
 (0 : Int) = (parse4 x).fst.snd.snd.snd.snd.fst ∧
 (0 : Int) = (parse4 x).fst.snd.snd.snd.snd.snd.fst ∧
 false = (parse4 x).fst.snd.snd.snd.snd.snd.snd.fst ∧
 (0 : Int) =
 (parse4 x).fst.snd.snd.snd.snd.snd.snd.snd.fst ∧
 (0 : Int) =
 (parse4
 x).fst.snd.snd.snd.snd.snd.snd.snd.snd.fst ∧
 false =
 (parse4
 x).fst.snd.snd.snd.snd.snd.snd.snd.snd.snd ∧
 (5 : Int) = (parse4 x).snd ∧ True)
 (((0 : Int) ≤ (12 : Int) ∧ (12 : Int) < (↑x.length : Int)) ∧
 ((0 : Int) ≤ (16 : Int) ∧ (16 : Int) < (↑x.length : Int)) ∧
 ifB (decide (x.getD (12 : Nat) (0 : Int) = (127 : Int)))
 (∃ (y : Unit),
 True ∧
 (0 : Int) = (parse4 x).fst.fst ∧
 (0 : Int) = (parse4 x).fst.snd.fst ∧
 (0 : Int) = (parse4 x).fst.snd.snd.fst ∧
 (0 : Int) = (parse4 x).fst.snd.snd.snd.fst ∧
 (0 : Int) = (parse4 x).fst.snd.snd.snd.snd.fst ∧
 (0 : Int) = (parse4 x).fst.snd.snd.snd.snd.snd.fst ∧
 false =
 (parse4 x).fst.snd.snd.snd.snd.snd.snd.fst ∧
 (0 : Int) =
 (parse4
 x).fst.snd.snd.snd.snd.snd.snd.snd.fst ∧
 (0 : Int) =
 (parse4
 x).fst.snd.snd.snd.snd.snd.snd.snd.snd.fst ∧
 false =
 (parse4
 x).fst.snd.snd.snd.snd.snd.snd.snd.snd.snd ∧
 (6 : Int) = (parse4 x).snd ∧ True)
 (ifB (decide ((224 : Int) ≤ x.getD (12 : Nat) (0 : Int)))
 (∃ (y : Unit),
 True ∧
 (0 : Int) = (parse4 x).fst.fst ∧
 (0 : Int) = (parse4 x).fst.snd.fst ∧
 (0 : Int) = (parse4 x).fst.snd.snd.fst ∧
 (0 : Int) = (parse4 x).fst.snd.snd.snd.fst ∧
 (0 : Int) = (parse4 x).fst.snd.snd.snd.snd.fst ∧
 (0 : Int) =
 (parse4 x).fst.snd.snd.snd.snd.snd.fst ∧
 false =
 (parse4 x).fst.snd.snd.snd.snd.snd.snd.fst ∧
 (0 : Int) =
 (parse4
 x).fst.snd.snd.snd.snd.snd.snd.snd.fst ∧
 (0 : Int) =
 (parse4
 x).fst.snd.snd.snd.snd.snd.snd.snd.snd.fst ∧
 false =
 (parse4
 x).fst.snd.snd.snd.snd.snd.snd.snd.snd.snd ∧
 (6 : Int) = (parse4 x).snd ∧ True)
 (ifB (decide (x.getD (16 : Nat) (0 : Int) = (0 : Int)))
 (∃ (y : Unit),
 True ∧
 (0 : Int) = (parse4 x).fst.fst ∧
 (0 : Int) = (parse4 x).fst.snd.fst ∧
 (0 : Int) = (parse4 x).fst.snd.snd.fst ∧
 (0 : Int) = (parse4 x).fst.snd.snd.snd.fst ∧
 (0 : Int) = (parse4 x).fst.snd.snd.snd.snd.fst ∧
 (0 : Int) =
 (parse4 x).fst.snd.snd.snd.snd.snd.fst ∧
 false =
 (parse4
 x).fst.snd.snd.snd.snd.snd.snd.fst ∧
 (0 : Int) =
 (parse4
 x).fst.snd.snd.snd.snd.snd.snd.snd.fst ∧
 (0 : Int) =
 (parse4
 x).fst.snd.snd.snd.snd.snd.snd.snd.snd.fst ∧
 false =
 (parse4
 x).fst.snd.snd.snd.snd.snd.snd.snd.snd.snd ∧
 (6 : Int) = (parse4 x).snd ∧ True)
 (∃ (y : Unit),
 True ∧
 (readH x_1).fst = (parse4 x).fst.fst ∧
 (readH x_1).snd.fst = (parse4 x).fst.snd.fst ∧
 (readH x_1).snd.snd.fst = (parse4 x).fst.snd.snd.fst ∧
 (readH x_1).snd.snd.snd.fst =
 (parse4 x).fst.snd.snd.snd.fst ∧
 (readH x_1).snd.snd.snd.snd.fst =
 (parse4 x).fst.snd.snd.snd.snd.fst ∧
 (readH x_1).snd.snd.snd.snd.snd.fst =
 (parse4 x).fst.snd.snd.snd.snd.snd.fst ∧
 (readH x_1).snd.snd.snd.snd.snd.snd.fst =
 (parse4
 x).fst.snd.snd.snd.snd.snd.snd.fst ∧
 (readH
 x_1).snd.snd.snd.snd.snd.snd.snd.fst =
 (parse4
 x).fst.snd.snd.snd.snd.snd.snd.snd.fst ∧
 (readH
 x_1).snd.snd.snd.snd.snd.snd.snd.snd.fst =
 (parse4
 x).fst.snd.snd.snd.snd.snd.snd.snd.snd.fst ∧
 (readH
 x_1).snd.snd.snd.snd.snd.snd.snd.snd.snd =
 (parse4
 x).fst.snd.snd.snd.snd.snd.snd.snd.snd.snd ∧
 (0 : Int) = (parse4 x).snd ∧
 True))))))))))
theorem o_parse4 : owes Try.prog (tab I2) LqI 1 67 Try.f67 Parse4S = T_parse4 := by kernel_rfl
def T_hop4 : Prop :=
 ∀ (x : List Int),
 (∀ (x_1 : Int), List.Mem x_1 x → (0 : Int) ≤ x_1 ∧ x_1 ≤ (255 : Int)) ∧ x.length ≤ most →
 ∃ (x_1 : List Int),
 x.length = x_1.length ∧
 x = x_1 ∧
 (∀ (x : Int), List.Mem x x_1 → (0 : Int) ≤ x ∧ x ≤ (255 : Int)) ∧
 ∀ (y : Unit),
 True →
 ifB (!decide ((parse4 x_1).snd = (0 : Int)))
 (∃ (y : Unit),
 True ∧ (0 : Nat) = (hop4 x).fst.length ∧ false = (hop4 x).snd ∧ [] = (hop4 x).fst ∧ True)
 (ifB (decide ((parse4 x_1).fst.snd.snd.fst < (2 : Int)))
 (∃ (y : Unit),
 True ∧ (0 : Nat) = (hop4 x).fst.length ∧ false = (hop4 x).snd ∧ [] = (hop4 x).fst ∧ True)
 (((0 : Int) ≤ (parse4 x_1).fst.snd.fst ∧ (parse4 x_1).fst.snd.fst ≤ (↑x.length : Int)) ∧
 ∃ (x_2 : List Int),
 (parse4 x_1).fst.snd.fst.toNat - (0 : Nat) = x_2.length ∧
 List.drop (0 : Nat) (List.take (parse4 x_1).fst.snd.fst.toNat x) = x_2 ∧
 x_2.length ≤ most ∧
 ∀ (y : Unit),
 True →
 ((0 : Int) ≤ (8 : Int) ∧ (8 : Int) ≤ (↑x_2.length : Int)) ∧
 ∃ (x_3 : List Int),
 x_2.length - (8 : Nat) = x_3.length ∧
 List.drop (8 : Nat) (List.take x_2.length x_2) = x_3 ∧
 ((∀ (x : Int), List.Mem x x_3 → (0 : Int) ≤ x ∧ x ≤ (255 : Int)) ∧
 (2 : Nat) ≤ x_3.length) ∧
 ∀ (y : Unit),
 True →
 ((0 : Int) ≤ (8 : Int) ∧ (8 : Int) < (↑x_2.length : Int)) ∧
 ((0 : Int) ≤ (8 : Int) ∧ (8 : Int) < (↑x_2.length : Int)) ∧
 ((0 : Int) ≤ (10 : Int) ∧ (10 : Int) ≤ (↑x_2.length : Int)) ∧
 ((0 : Int) ≤ (10 : Int) ∧ (10 : Int) ≤ (↑x_2.length : Int)) ∧
 ((0 : Int) ≤ (8 : Int) ∧ (8 : Int) ≤ (↑x_2.length : Int)) ∧
 ∃ (x_4 : List Int),
 x_2.length - (10 : Nat) = x_4.length ∧
 List.drop (10 : Nat)
 (List.take x_2.length
 (x_2.set (8 : Nat)
 ((x_2.getD (8 : Nat) (0 : Int) - (1 : Int)) %
 (256 : Int)))) =
 x_4 ∧
 ((∀ (x : Int),
 List.Mem x x_4 →
 (0 : Int) ≤ x ∧ x ≤ (255 : Int)) ∧
 (2 : Nat) ≤ x_4.length) ∧
 ∀ (y : Unit),
 True →
 ∃ (x_5 : List Int),
 x_2.length - (8 : Nat) = x_5.length ∧
 List.drop (8 : Nat)
 (List.take x_2.length
 (x_2.set (8 : Nat)
 ((x_2.getD (8 : Nat) (0 : Int) -
 (1 : Int)) %
 (256 : Int)))) =
 x_5 ∧
 ((∀ (x : Int),
 List.Mem x x_5 →
 (0 : Int) ≤ x ∧ x ≤ (255 : Int)) ∧
 (2 : Nat) ≤ x_5.length) ∧
 ∀ (y : Unit),
 True →
 ∃ (x_6 : Int × Int × Int),
 wordZ x_4 (0 : Nat) = x_6.fst ∧
 wordZ x_3 (0 : Nat) =
 x_6.snd.fst ∧
 wordZ x_5 (0 : Nat) =
 x_6.snd.snd ∧
 (((0 : Int) ≤ x_6.fst ∧
 x_6.fst ≤
 (65535 : Int)) ∧
 ((0 : Int) ≤ x_6.snd.fst ∧
 x_6.snd.fst ≤
 (65535 : Int)) ∧
 (0 : Int) ≤
 x_6.snd.snd ∧
 x_6.snd.snd ≤
 (65535 : Int)) ∧
 ∀ (y : Unit),
 True →
 (0 : Int) ≤ (8 : Int) ∧
 ∃ (y : Unit),
 True ∧
 x_2.length =
 (hop4
 x).fst.length ∧
 true =
 (hop4
 x).snd ∧
 mid
 (x_2.set
 (8 :
 Nat)
 ((x_2.getD
 (8 :
 Nat)
 (0 :
 Int) -
 (1 :
 Int)) %
 (256 :
 Int)))
 (10 :
 Nat)
 (List.take
 (min
 [patchZ
 x_6.fst
 x_6.snd.fst
 x_6.snd.snd /
 (256 :
 Int) %
 (256 :
 Int),
 patchZ
 x_6.fst
 x_6.snd.fst
 x_6.snd.snd %
 (256 :
 Int)].length
 (x_2.length -
 (10 :
 Nat)))
 [patchZ
 x_6.fst
 x_6.snd.fst
 x_6.snd.snd /
 (256 :
 Int) %
 (256 :
 Int),
 patchZ
 x_6.fst
 x_6.snd.fst
 x_6.snd.snd %
 (256 :
 Int)]) =
 (hop4
 x).fst ∧
 True))
theorem o_hop4 : owes Try.prog (tab I3) LqI 1 78 Try.f78 Hop4S = T_hop4 := by kernel_rfl
def T_build4 : Prop :=
 ∀ (x : Hd × List Int),
 (((((0 : Int) ≤ (hSrc x.fst).fst ∧ (hSrc x.fst).fst < (18446744073709551616 : Int)) ∧
 (0 : Int) ≤ (hSrc x.fst).snd.fst ∧ (hSrc x.fst).snd.fst < (18446744073709551616 : Int)) ∧
 ((0 : Int) ≤ (hDst x.fst).fst ∧ (hDst x.fst).fst < (18446744073709551616 : Int)) ∧
 (0 : Int) ≤ (hDst x.fst).snd.fst ∧ (hDst x.fst).snd.fst < (18446744073709551616 : Int)) ∧
 ∀ (x_1 : Int), List.Mem x_1 x.snd → (0 : Int) ≤ x_1 ∧ x_1 ≤ (255 : Int)) →
 ((0 : Int) ≤ min (↑x.snd.length : Int) (2028 : Int) ∧
 min (↑x.snd.length : Int) (2028 : Int) ≤ (↑x.snd.length : Int)) ∧
 ((-9223372036854775808 : Int) ≤
 (20 : Int) + (↑((min (↑x.snd.length : Int) (2028 : Int)).toNat - (0 : Nat)) : Int) ∧
 (20 : Int) + (↑((min (↑x.snd.length : Int) (2028 : Int)).toNat - (0 : Nat)) : Int) ≤
 (9223372036854775807 : Int)) ∧
 ((0 : Int) ≤ (20 : Int) ∧
 (20 : Int) ≤ (20 : Int) + (↑((min (↑x.snd.length : Int) (2028 : Int)).toNat - (0 : Nat)) : Int) ∧
 (20 : Int) + (↑((min (↑x.snd.length : Int) (2028 : Int)).toNat - (0 : Nat)) : Int) ≤
 (140737488355328 : Int) ∧
 ((20 : Int) + (↑((min (↑x.snd.length : Int) (2028 : Int)).toNat - (0 : Nat)) : Int)) * (1 : Int) ≤
 (140737488355328 : Int)) ∧
 ((0 : Int) ≤ (0 : Int) ∧ (0 : Int) < (20 : Int)) ∧
 ((0 : Int) ≤ (2 : Int) ∧ (2 : Int) ≤ (20 : Int)) ∧
 ((-9223372036854775808 : Int) ≤
 (20 : Int) + (↑((min (↑x.snd.length : Int) (2028 : Int)).toNat - (0 : Nat)) : Int) ∧
 (20 : Int) + (↑((min (↑x.snd.length : Int) (2028 : Int)).toNat - (0 : Nat)) : Int) ≤
 (9223372036854775807 : Int)) ∧
 (0 : Int) ≤ (8 : Int) ∧
 ((0 : Int) ≤ (8 : Int) ∧ (8 : Int) < (20 : Int)) ∧
 ((0 : Int) ≤ (9 : Int) ∧ (9 : Int) < (20 : Int)) ∧
 ((0 : Int) ≤ (0 : Int) ∧ (0 : Int) < (2 : Int)) ∧
 ifB
 (!([(x.fst.snd.snd.snd.snd.fst, x.fst.snd.snd.snd.snd.snd.fst,
 x.fst.snd.snd.snd.snd.snd.snd.fst),
 (x.fst.snd.snd.snd.snd.snd.snd.snd.fst, x.fst.snd.snd.snd.snd.snd.snd.snd.snd.fst,
 x.fst.snd.snd.snd.snd.snd.snd.snd.snd.snd)].getD
 (0 : Nat) ((0 : Int), (0 : Int), false)).snd.snd)
 (((-9223372036854775808 : Int) ≤ (0 : Int) ∧ (0 : Int) ≤ (9223372036854775807 : Int)) ∧
 ((-9223372036854775808 : Int) ≤ (12 : Int) ∧ (12 : Int) ≤ (9223372036854775807 : Int)) ∧
 ((0 : Int) ≤ (12 : Int) ∧ (12 : Int) ≤ (20 : Int)) ∧
 ∃ (x_1 : Int × Int × Bool),
 ([(x.fst.snd.snd.snd.snd.fst, x.fst.snd.snd.snd.snd.snd.fst,
 x.fst.snd.snd.snd.snd.snd.snd.fst),
 (x.fst.snd.snd.snd.snd.snd.snd.snd.fst,
 x.fst.snd.snd.snd.snd.snd.snd.snd.snd.fst,
 x.fst.snd.snd.snd.snd.snd.snd.snd.snd.snd)].getD
 (0 : Nat) ((0 : Int), (0 : Int), false)).fst =
 x_1.fst ∧
 ([(x.fst.snd.snd.snd.snd.fst, x.fst.snd.snd.snd.snd.snd.fst,
 x.fst.snd.snd.snd.snd.snd.snd.fst),
 (x.fst.snd.snd.snd.snd.snd.snd.snd.fst,
 x.fst.snd.snd.snd.snd.snd.snd.snd.snd.fst,
 x.fst.snd.snd.snd.snd.snd.snd.snd.snd.snd)].getD
 (0 : Nat) ((0 : Int), (0 : Int), false)).snd.fst =
 x_1.snd.fst ∧
 ([(x.fst.snd.snd.snd.snd.fst, x.fst.snd.snd.snd.snd.snd.fst,
 x.fst.snd.snd.snd.snd.snd.snd.fst),
 (x.fst.snd.snd.snd.snd.snd.snd.snd.fst,
 x.fst.snd.snd.snd.snd.snd.snd.snd.snd.fst,
 x.fst.snd.snd.snd.snd.snd.snd.snd.snd.snd)].getD
 (0 : Nat) ((0 : Int), (0 : Int), false)).snd.snd =
 x_1.snd.snd ∧
 (((0 : Int) ≤ x_1.fst ∧ x_1.fst < (18446744073709551616 : Int)) ∧
 (0 : Int) ≤ x_1.snd.fst ∧ x_1.snd.fst < (18446744073709551616 : Int)) ∧
 ∀ (y : Unit),
 True →
 ((-9223372036854775808 : Int) ≤ (1 : Int) ∧
 (1 : Int) ≤ (9223372036854775807 : Int)) ∧
 ((0 : Int) ≤ (1 : Int) ∧ (1 : Int) < (2 : Int)) ∧
 ifB
 (!([(x.fst.snd.snd.snd.snd.fst, x.fst.snd.snd.snd.snd.snd.fst,
 x.fst.snd.snd.snd.snd.snd.snd.fst),
 (x.fst.snd.snd.snd.snd.snd.snd.snd.fst,
 x.fst.snd.snd.snd.snd.snd.snd.snd.snd.fst,
 x.fst.snd.snd.snd.snd.snd.snd.snd.snd.snd)].getD
 (1 : Nat) ((0 : Int), (0 : Int), false)).snd.snd)
 (((-9223372036854775808 : Int) ≤ (4 : Int) ∧
 (4 : Int) ≤ (9223372036854775807 : Int)) ∧
 ((-9223372036854775808 : Int) ≤ (16 : Int) ∧
 (16 : Int) ≤ (9223372036854775807 : Int)) ∧
 ((0 : Int) ≤ (16 : Int) ∧ (16 : Int) ≤ (20 : Int)) ∧
 ∃ (x_2 : Int × Int × Bool),
 ([(x.fst.snd.snd.snd.snd.fst, x.fst.snd.snd.snd.snd.snd.fst,
 x.fst.snd.snd.snd.snd.snd.snd.fst),
 (x.fst.snd.snd.snd.snd.snd.snd.snd.fst,
 x.fst.snd.snd.snd.snd.snd.snd.snd.snd.fst,
 x.fst.snd.snd.snd.snd.snd.snd.snd.snd.snd)].getD
 (1 : Nat) ((0 : Int), (0 : Int), false)).fst =
 x_2.fst ∧
 ([(x.fst.snd.snd.snd.snd.fst,
 x.fst.snd.snd.snd.snd.snd.fst,
 x.fst.snd.snd.snd.snd.snd.snd.fst),
 (x.fst.snd.snd.snd.snd.snd.snd.snd.fst,
 x.fst.snd.snd.snd.snd.snd.snd.snd.snd.fst,
 x.fst.snd.snd.snd.snd.snd.snd.snd.snd.snd)].getD
 (1 : Nat)
 ((0 : Int), (0 : Int), false)).snd.fst =
 x_2.snd.fst ∧
 ([(x.fst.snd.snd.snd.snd.fst,
 x.fst.snd.snd.snd.snd.snd.fst,
 x.fst.snd.snd.snd.snd.snd.snd.fst),
 (x.fst.snd.snd.snd.snd.snd.snd.snd.fst,
 x.fst.snd.snd.snd.snd.snd.snd.snd.snd.fst,
 x.fst.snd.snd.snd.snd.snd.snd.snd.snd.snd)].getD
 (1 : Nat)
 ((0 : Int), (0 : Int), false)).snd.snd =
 x_2.snd.snd ∧
 (((0 : Int) ≤ x_2.fst ∧
 x_2.fst < (18446744073709551616 : Int)) ∧
 (0 : Int) ≤ x_2.snd.fst ∧
 x_2.snd.fst < (18446744073709551616 : Int)) ∧
 ∀ (y : Unit),
 True →
 ((-9223372036854775808 : Int) ≤ (2 : Int) ∧
 (2 : Int) ≤ (9223372036854775807 : Int)) ∧
 ((0 : Int) ≤ (10 : Int) ∧
 (10 : Int) ≤ (20 : Int)) ∧
 ∃ (x_3 : List Int),
 (20 : Nat) = x_3.length ∧
 mid
 (mid
 (((mid
 ((List.replicate
 (20 : Nat)
 (0 : Int)).set
 (0 : Nat)
 (69 : Int))
 (2 : Nat)
 (List.take
 (min
 [((20 : Int) +
 (↑((min
 (↑x.snd.length :
 Int)
 (2028 :
 Int)).toNat -
 (0 :
 Nat)) :
 Int)) %
 (65536 :
 Int) /
 (256 :
 Int) %
 (256 : Int),
 ((20 : Int) +
 (↑((min
 (↑x.snd.length :
 Int)
 (2028 :
 Int)).toNat -
 (0 :
 Nat)) :
 Int)) %
 (65536 :
 Int) %
 (256 :
 Int)].length
 (18 : Nat))
 [((20 : Int) +
 (↑((min
 (↑x.snd.length :
 Int)
 (2028 :
 Int)).toNat -
 (0 :
 Nat)) :
 Int)) %
 (65536 :
 Int) /
 (256 : Int) %
 (256 : Int),
 ((20 : Int) +
 (↑((min
 (↑x.snd.length :
 Int)
 (2028 :
 Int)).toNat -
 (0 :
 Nat)) :
 Int)) %
 (65536 :
 Int) %
 (256 :
 Int)])).set
 (8 : Nat)
 (x.fst.snd.snd.fst %
 (256 : Int))).set
 (9 : Nat)
 (x.fst.snd.snd.snd.fst %
 (256 : Int)))
 (12 : Nat)
 (List.take
 (min (bytesA x_1).length
 (8 : Nat))
 (bytesA x_1)))
 (16 : Nat)
 (List.take
 (min (bytesA x_2).length
 (4 : Nat))
 (bytesA x_2)) =
 x_3 ∧
 ((∀ (x : Int),
 List.Mem x x_3 →
 (0 : Int) ≤ x ∧
 x ≤ (255 : Int)) ∧
 x_3.length ≤ most) ∧
 ∀ (y : Unit),
 True →
 (0 : Int) ≤ (8 : Int) ∧
 (((20 : Nat) +
 (List.drop (0 : Nat)
 (List.take
 (min
 (↑x.snd.length :
 Int)
 (2028 :
 Int)).toNat
 x.snd)).length) *
 (1 : Nat) ≤
 (140737488355328 :
 Nat) ∧
 (20 : Nat) +
 (List.drop (0 : Nat)
 (List.take
 (min
 (↑x.snd.length :
 Int)
 (2028 :
 Int)).toNat
 x.snd)).length ≤
 (140737488355328 :
 Nat)) ∧
 ∃ (y : Unit),
 True ∧
 (20 : Nat) +
 (List.drop
 (0 : Nat)
 (List.take
 (min
 (↑x.snd.length :
 Int)
 (2028 :
 Int)).toNat
 x.snd)).length =
 (build4 x.fst
 x.snd).length ∧
 mid
 (mid
 (mid
 (((mid
 ((List.replicate
 (20 :
 Nat)
 (0 :
 Int)).set
 (0 :
 Nat)
 (69 :
 Int))
 (2 :
 Nat)
 (List.take
 (min
 [((20 :
 Int) +
 (↑((min
 (↑x.snd.length :
 Int)
 (2028 :
 Int)).toNat -
 (0 :
 Nat)) :
 Int)) %
 (65536 :
 Int) /
 (256 :
 Int) %
 (256 :
 Int),
 ((20 :
 Int) +
 (↑((min
 (↑x.snd.length :
 Int)
 (2028 :
 Int)).toNat -
 (0 :
 Nat)) :
 Int)) %
 (65536 :
 Int) %
 (256 :
 Int)].length
 (18 :
 Nat))
 [((20 :
 Int) +
 (↑((min
 (↑x.snd.length :
 Int)
 (2028 :
 Int)).toNat -
 (0 :
 Nat)) :
 Int)) %
 (65536 :
 Int) /
 (256 :
 Int) %
 (256 :
 Int),
 ((20 :
 Int) +
 (↑((min
 (↑x.snd.length :
 Int)
 (2028 :
 Int)).toNat -
 (0 :
 Nat)) :
 Int)) %
 (65536 :
 Int) %
 (256 :
 Int)])).set
 (8 :
 Nat)
 (x.fst.snd.snd.fst %
 (256 :
 Int))).set
 (9 :
 Nat)
 (x.fst.snd.snd.snd.fst %
 (256 :
 Int)))
 (12 : Nat)
 (List.take
 (min
 (bytesA
 x_1).length
 (8 :
 Nat))
 (bytesA
 x_1)))
 (16 : Nat)
 (List.take
 (min
 (bytesA
 x_2).length
 (4 :
 Nat))
 (bytesA
 x_2)))
 (10 : Nat)
 (List.take
 (min
 [sumZ
 x_3 /
 (256 :
 Int) %
 (256 :
 Int),
 sumZ
 x_3 %
 (256 :
 Int)].length
 (10 :
 Nat))
 [sumZ x_3 /
 (256 :
 Int) %
 (256 :
 Int),
 sumZ x_3 %
 (256 :
 Int)]) ++
 List.drop
 (0 : Nat)
 (List.take
 (min
 (↑x.snd.length :
 Int)
 (2028 :
 Int)).toNat
 x.snd) =
 build4 x.fst
 x.snd ∧
 True)
 (((-9223372036854775808 : Int) ≤ (2 : Int) ∧
 (2 : Int) ≤ (9223372036854775807 : Int)) ∧
 ((0 : Int) ≤ (10 : Int) ∧ (10 : Int) ≤ (20 : Int)) ∧
 ∃ (x_2 : List Int),
 (20 : Nat) = x_2.length ∧
 mid
 (((mid
 ((List.replicate (20 : Nat) (0 : Int)).set
 (0 : Nat) (69 : Int))
 (2 : Nat)
 (List.take
 (min
 [((20 : Int) +
 (↑((min
 (↑x.snd.length :
 Int)
 (2028 :
 Int)).toNat -
 (0 : Nat)) :
 Int)) %
 (65536 : Int) /
 (256 : Int) %
 (256 : Int),
 ((20 : Int) +
 (↑((min (↑x.snd.length : Int)
 (2028 :
 Int)).toNat -
 (0 : Nat)) :
 Int)) %
 (65536 : Int) %
 (256 : Int)].length
 (18 : Nat))
 [((20 : Int) +
 (↑((min (↑x.snd.length : Int)
 (2028 : Int)).toNat -
 (0 : Nat)) :
 Int)) %
 (65536 : Int) /
 (256 : Int) %
 (256 : Int),
 ((20 : Int) +
 (↑((min (↑x.snd.length : Int)
 (2028 : Int)).toNat -
 (0 : Nat)) :
 Int)) %
 (65536 : Int) %
 (256 : Int)])).set
 (8 : Nat) (x.fst.snd.snd.fst % (256 : Int))).set
 (9 : Nat) (x.fst.snd.snd.snd.fst % (256 : Int)))
 (12 : Nat)
 (List.take (min (bytesA x_1).length (8 : Nat))
 (bytesA x_1)) =
 x_2 ∧
 ((∀ (x : Int),
 List.Mem x x_2 → (0 : Int) ≤ x ∧ x ≤ (255 : Int)) ∧
 x_2.length ≤ most) ∧
 ∀ (y : Unit),
 True →
 (0 : Int) ≤ (8 : Int) ∧
 (((20 : Nat) +
 (List.drop (0 : Nat)
 (List.take
 (min (↑x.snd.length : Int)
 (2028 : Int)).toNat
 x.snd)).length) *
 (1 : Nat) ≤
 (140737488355328 : Nat) ∧
 (20 : Nat) +
 (List.drop (0 : Nat)
 (List.take
 (min (↑x.snd.length : Int)
 (2028 : Int)).toNat
 x.snd)).length ≤
 (140737488355328 : Nat)) ∧
 ∃ (y : Unit),
 True ∧
 (20 : Nat) +
 (List.drop (0 : Nat)
 (List.take
 (min (↑x.snd.length : Int)
 (2028 : Int)).toNat
 x.snd)).length =
 (build4 x.fst x.snd).length ∧
 mid
 (mid
 (((mid
 ((List.replicate
 (20 : Nat)
 (0 : Int)).set
 (0 : Nat)
 (69 : Int))
 (2 : Nat)
 (List.take
 (min
 [((20 : Int) +
 (↑((min
 (↑x.snd.length :
 Int)
 (2028 :
 Int)).toNat -
 (0 :
 Nat)) :
 Int)) %
 (65536 :
 Int) /
 (256 :
 Int) %
 (256 : Int),
 ((20 : Int) +
 (↑((min
 (↑x.snd.length :
 Int)
 (2028 :
 Int)).toNat -
 (0 :
 Nat)) :
 Int)) %
 (65536 :
 Int) %
 (256 :
 Int)].length
 (18 : Nat))
 [((20 : Int) +
 (↑((min
 (↑x.snd.length :
 Int)
 (2028 :
 Int)).toNat -
 (0 :
 Nat)) :
 Int)) %
 (65536 :
 Int) /
 (256 : Int) %
 (256 : Int),
 ((20 : Int) +
 (↑((min
 (↑x.snd.length :
 Int)
 (2028 :
 Int)).toNat -
 (0 :
 Nat)) :
 Int)) %
 (65536 :
 Int) %
 (256 :
 Int)])).set
 (8 : Nat)
 (x.fst.snd.snd.fst %
 (256 : Int))).set
 (9 : Nat)
 (x.fst.snd.snd.snd.fst %
 (256 : Int)))
 (12 : Nat)
 (List.take
 (min (bytesA x_1).length
 (8 : Nat))
 (bytesA x_1)))
 (10 : Nat)
 (List.take
 (min
 [sumZ x_2 / (256 : Int) %
 (256 : Int),
 sumZ x_2 %
 (256 : Int)].length
 (10 : Nat))
 [sumZ x_2 / (256 : Int) %
 (256 : Int),
 sumZ x_2 % (256 : Int)]) ++
 List.drop (0 : Nat)
 (List.take
 (min (↑x.snd.length : Int)
 (2028 : Int)).toNat
 x.snd) =
 build4 x.fst x.snd ∧
 True))
 (((-9223372036854775808 : Int) ≤ (1 : Int) ∧ (1 : Int) ≤ (9223372036854775807 : Int)) ∧
 ((0 : Int) ≤ (1 : Int) ∧ (1 : Int) < (2 : Int)) ∧
 ifB
 (!([(x.fst.snd.snd.snd.snd.fst, x.fst.snd.snd.snd.snd.snd.fst,
 x.fst.snd.snd.snd.snd.snd.snd.fst),
 (x.fst.snd.snd.snd.snd.snd.snd.snd.fst,
 x.fst.snd.snd.snd.snd.snd.snd.snd.snd.fst,
 x.fst.snd.snd.snd.snd.snd.snd.snd.snd.snd)].getD
 (1 : Nat) ((0 : Int), (0 : Int), false)).snd.snd)
 (((-9223372036854775808 : Int) ≤ (4 : Int) ∧ (4 : Int) ≤ (9223372036854775807 : Int)) ∧
 ((-9223372036854775808 : Int) ≤ (16 : Int) ∧
 (16 : Int) ≤ (9223372036854775807 : Int)) ∧
 ((0 : Int) ≤ (16 : Int) ∧ (16 : Int) ≤ (20 : Int)) ∧
 ∃ (x_1 : Int × Int × Bool),
 ([(x.fst.snd.snd.snd.snd.fst, x.fst.snd.snd.snd.snd.snd.fst,
 x.fst.snd.snd.snd.snd.snd.snd.fst),
 (x.fst.snd.snd.snd.snd.snd.snd.snd.fst,
 x.fst.snd.snd.snd.snd.snd.snd.snd.snd.fst,
 x.fst.snd.snd.snd.snd.snd.snd.snd.snd.snd)].getD
 (1 : Nat) ((0 : Int), (0 : Int), false)).fst =
 x_1.fst ∧
 ([(x.fst.snd.snd.snd.snd.fst, x.fst.snd.snd.snd.snd.snd.fst,
 x.fst.snd.snd.snd.snd.snd.snd.fst),
 (x.fst.snd.snd.snd.snd.snd.snd.snd.fst,
 x.fst.snd.snd.snd.snd.snd.snd.snd.snd.fst,
 x.fst.snd.snd.snd.snd.snd.snd.snd.snd.snd)].getD
 (1 : Nat) ((0 : Int), (0 : Int), false)).snd.fst =
 x_1.snd.fst ∧
 ([(x.fst.snd.snd.snd.snd.fst, x.fst.snd.snd.snd.snd.snd.fst,
 x.fst.snd.snd.snd.snd.snd.snd.fst),
 (x.fst.snd.snd.snd.snd.snd.snd.snd.fst,
 x.fst.snd.snd.snd.snd.snd.snd.snd.snd.fst,
 x.fst.snd.snd.snd.snd.snd.snd.snd.snd.snd)].getD
 (1 : Nat) ((0 : Int), (0 : Int), false)).snd.snd =
 x_1.snd.snd ∧
 (((0 : Int) ≤ x_1.fst ∧ x_1.fst < (18446744073709551616 : Int)) ∧
 (0 : Int) ≤ x_1.snd.fst ∧
 x_1.snd.fst < (18446744073709551616 : Int)) ∧
 ∀ (y : Unit),
 True →
 ((-9223372036854775808 : Int) ≤ (2 : Int) ∧
 (2 : Int) ≤ (9223372036854775807 : Int)) ∧
 ((0 : Int) ≤ (10 : Int) ∧ (10 : Int) ≤ (20 : Int)) ∧
 ∃ (x_2 : List Int),
 (20 : Nat) = x_2.length ∧
 mid
 (((mid
 ((List.replicate (20 : Nat) (0 : Int)).set
 (0 : Nat) (69 : Int))
 (2 : Nat)
 (List.take
 (min
 [((20 : Int) +
 (↑((min
 (↑x.snd.length :
 Int)
 (2028 :
 Int)).toNat -
 (0 : Nat)) :
 Int)) %
 (65536 : Int) /
 (256 : Int) %
 (256 : Int),
 ((20 : Int) +
 (↑((min (↑x.snd.length : Int)
 (2028 :
 Int)).toNat -
 (0 : Nat)) :
 Int)) %
 (65536 : Int) %
 (256 : Int)].length
 (18 : Nat))
 [((20 : Int) +
 (↑((min (↑x.snd.length : Int)
 (2028 : Int)).toNat -
 (0 : Nat)) :
 Int)) %
 (65536 : Int) /
 (256 : Int) %
 (256 : Int),
 ((20 : Int) +
 (↑((min (↑x.snd.length : Int)
 (2028 : Int)).toNat -
 (0 : Nat)) :
 Int)) %
 (65536 : Int) %
 (256 : Int)])).set
 (8 : Nat) (x.fst.snd.snd.fst % (256 : Int))).set
 (9 : Nat) (x.fst.snd.snd.snd.fst % (256 : Int)))
 (16 : Nat)
 (List.take (min (bytesA x_1).length (4 : Nat))
 (bytesA x_1)) =
 x_2 ∧
 ((∀ (x : Int),
 List.Mem x x_2 → (0 : Int) ≤ x ∧ x ≤ (255 : Int)) ∧
 x_2.length ≤ most) ∧
 ∀ (y : Unit),
 True →
 (0 : Int) ≤ (8 : Int) ∧
 (((20 : Nat) +
 (List.drop (0 : Nat)
 (List.take
 (min (↑x.snd.length : Int)
 (2028 : Int)).toNat
 x.snd)).length) *
 (1 : Nat) ≤
 (140737488355328 : Nat) ∧
 (20 : Nat) +
 (List.drop (0 : Nat)
 (List.take
 (min (↑x.snd.length : Int)
 (2028 : Int)).toNat
 x.snd)).length ≤
 (140737488355328 : Nat)) ∧
 ∃ (y : Unit),
 True ∧
 (20 : Nat) +
 (List.drop (0 : Nat)
 (List.take
 (min (↑x.snd.length : Int)
 (2028 : Int)).toNat
 x.snd)).length =
 (build4 x.fst x.snd).length ∧
 mid
 (mid
 (((mid
 ((List.replicate
 (20 : Nat)
 (0 : Int)).set
 (0 : Nat)
 (69 : Int))
 (2 : Nat)
 (List.take
 (min
 [((20 : Int) +
 (↑((min
 (↑x.snd.length :
 Int)
 (2028 :
 Int)).toNat -
 (0 :
 Nat)) :
 Int)) %
 (65536 :
 Int) /
 (256 :
 Int) %
 (256 : Int),
 ((20 : Int) +
 (↑((min
 (↑x.snd.length :
 Int)
 (2028 :
 Int)).toNat -
 (0 :
 Nat)) :
 Int)) %
 (65536 :
 Int) %
 (256 :
 Int)].length
 (18 : Nat))
 [((20 : Int) +
 (↑((min
 (↑x.snd.length :
 Int)
 (2028 :
 Int)).toNat -
 (0 :
 Nat)) :
 Int)) %
 (65536 :
 Int) /
 (256 : Int) %
 (256 : Int),
 ((20 : Int) +
 (↑((min
 (↑x.snd.length :
 Int)
 (2028 :
 Int)).toNat -
 (0 :
 Nat)) :
 Int)) %
 (65536 :
 Int) %
 (256 :
 Int)])).set
 (8 : Nat)
 (x.fst.snd.snd.fst %
 (256 : Int))).set
 (9 : Nat)
 (x.fst.snd.snd.snd.fst %
 (256 : Int)))
 (16 : Nat)
 (List.take
 (min (bytesA x_1).length
 (4 : Nat))
 (bytesA x_1)))
 (10 : Nat)
 (List.take
 (min
 [sumZ x_2 / (256 : Int) %
 (256 : Int),
 sumZ x_2 %
 (256 : Int)].length
 (10 : Nat))
 [sumZ x_2 / (256 : Int) %
 (256 : Int),
 sumZ x_2 % (256 : Int)]) ++
 List.drop (0 : Nat)
 (List.take
 (min (↑x.snd.length : Int)
 (2028 : Int)).toNat
 x.snd) =
 build4 x.fst x.snd ∧
 True)
 (((-9223372036854775808 : Int) ≤ (2 : Int) ∧ (2 : Int) ≤ (9223372036854775807 : Int)) ∧
 ((0 : Int) ≤ (10 : Int) ∧ (10 : Int) ≤ (20 : Int)) ∧
 ∃ (x_1 : List Int),
 (20 : Nat) = x_1.length ∧
 ((mid ((List.replicate (20 : Nat) (0 : Int)).set (0 : Nat) (69 : Int)) (2 : Nat)
 (List.take
 (min
 [((20 : Int) +
 (↑((min (↑x.snd.length : Int)
 (2028 : Int)).toNat -
 (0 : Nat)) :
 Int)) %
 (65536 : Int) /
 (256 : Int) %
 (256 : Int),
 ((20 : Int) +
 (↑((min (↑x.snd.length : Int) (2028 : Int)).toNat -
 (0 : Nat)) :
 Int)) %
 (65536 : Int) %
 (256 : Int)].length
 (18 : Nat))
 [((20 : Int) +
 (↑((min (↑x.snd.length : Int) (2028 : Int)).toNat -
 (0 : Nat)) :
 Int)) %
 (65536 : Int) /
 (256 : Int) %
 (256 : Int),
 ((20 : Int) +
 (↑((min (↑x.snd.length : Int) (2028 : Int)).toNat -
 (0 : Nat)) :
 Int)) %
 (65536 : Int) %
 (256 : Int)])).set
 (8 : Nat) (x.fst.snd.snd.fst % (256 : Int))).set
 (9 : Nat) (x.fst.snd.snd.snd.fst % (256 : Int)) =
 x_1 ∧
 ((∀ (x : Int), List.Mem x x_1 → (0 : Int) ≤ x ∧ x ≤ (255 : Int)) ∧
 x_1.length ≤ most) ∧
 ∀ (y : Unit),
 True →
 (0 : Int) ≤ (8 : Int) ∧
 (((20 : Nat) +
 (List.drop (0 : Nat)
 (List.take
 (min (↑x.snd.length : Int) (2028 : Int)).toNat
 x.snd)).length) *
 (1 : Nat) ≤
 (140737488355328 : Nat) ∧
 (20 : Nat) +
 (List.drop (0 : Nat)
 (List.take (min (↑x.snd.length : Int) (2028 : Int)).toNat
 x.snd)).length ≤
 (140737488355328 : Nat)) ∧
 ∃ (y : Unit),
 True ∧
 (20 : Nat) +
 (List.drop (0 : Nat)
 (List.take
 (min (↑x.snd.length : Int) (2028 : Int)).toNat
 x.snd)).length =
 (build4 x.fst x.snd).length ∧
 mid
 (((mid
 ((List.replicate (20 : Nat) (0 : Int)).set
 (0 : Nat) (69 : Int))
 (2 : Nat)
 (List.take
 (min
 [((20 : Int) +
 (↑((min
 (↑x.snd.length :
 Int)
 (2028 :
 Int)).toNat -
 (0 : Nat)) :
 Int)) %
 (65536 : Int) /
 (256 : Int) %
 (256 : Int),
 ((20 : Int) +
 (↑((min (↑x.snd.length : Int)
 (2028 :
 Int)).toNat -
 (0 : Nat)) :
 Int)) %
 (65536 : Int) %
 (256 : Int)].length
 (18 : Nat))
 [((20 : Int) +
 (↑((min (↑x.snd.length : Int)
 (2028 : Int)).toNat -
 (0 : Nat)) :
 Int)) %
 (65536 : Int) /
 (256 : Int) %
 (256 : Int),
 ((20 : Int) +
 (↑((min (↑x.snd.length : Int)
 (2028 : Int)).toNat -
 (0 : Nat)) :
 Int)) %
 (65536 : Int) %
 (256 : Int)])).set
 (8 : Nat) (x.fst.snd.snd.fst % (256 : Int))).set
 (9 : Nat) (x.fst.snd.snd.snd.fst % (256 : Int)))
 (10 : Nat)
 (List.take
 (min
 [sumZ x_1 / (256 : Int) % (256 : Int),
 sumZ x_1 % (256 : Int)].length
 (10 : Nat))
 [sumZ x_1 / (256 : Int) % (256 : Int),
 sumZ x_1 % (256 : Int)]) ++
 List.drop (0 : Nat)
 (List.take
 (min (↑x.snd.length : Int) (2028 : Int)).toNat
 x.snd) =
 build4 x.fst x.snd ∧
 True))
theorem o_build4 : owes Try.prog (tab I3) LqI 1 65 Try.f65 Build4S = T_build4 := by kernel_rfl
end Sp
