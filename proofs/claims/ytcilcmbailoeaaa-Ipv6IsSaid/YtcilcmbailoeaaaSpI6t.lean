/- Printed by sx.py, a program of this work: what the walks of some functions owe. -/
import Derived.Test.YtcilcmbailoeaaaSpI6
import Derived.ProofKit
set_option linter.all false
set_option maxRecDepth 100000
namespace Sp
open Go Go.Proofs Sx
def T_number : Prop :=
 ∀ (x : List Int),
 (∀ (x_1 : Int), List.Mem x_1 x → (0 : Int) ≤ x_1 ∧ x_1 ≤ (255 : Int)) ∧ x.length ≤ (4 : Nat) →
 ∃ (I : Int × Int → Prop),
 ∃ (μ : Int × Int → Nat),
 (∃ (x : Int × Int), I x ∧ (0 : Int) = x.fst ∧ (0 : Int) = x.snd ∧ True) ∧
 ∀ (x_1 : Int × Int),
 I x_1 →
 ifB (decide (x_1.fst < (↑x.length : Int)))
 (((0 : Int) ≤ x_1.fst ∧ x_1.fst < (↑x.length : Int)) ∧
 (0 : Int) ≤ (8 : Int) ∧
 ((-9223372036854775808 : Int) ≤ x_1.snd * (256 : Int) ∧
 x_1.snd * (256 : Int) ≤ (9223372036854775807 : Int)) ∧
 ((-9223372036854775808 : Int) ≤ x_1.fst + (1 : Int) ∧
 x_1.fst + (1 : Int) ≤ (9223372036854775807 : Int)) ∧
 ∃ (y : Int × Int),
 I y ∧
 μ y < μ x_1 ∧
 x_1.fst + (1 : Int) = y.fst ∧
 bits BinOp.or IntKind.i64 (x_1.snd * (256 : Int)) (x.getD x_1.fst.toNat (0 : Int)) =
 y.snd ∧
 True)
 (∃ (y : Unit), True ∧ x_1.snd = numZ x ∧ True)
theorem o_number : owes Try.prog (tab W1) LqJ 0 136 Try.f136 NumberS = T_number := by kernel_rfl
def T_contains : Prop :=
 ∀ (x : Pf × Ad),
 (((0 : Int) ≤ (pA x.fst).fst ∧ (pA x.fst).fst < (18446744073709551616 : Int)) ∧
 (0 : Int) ≤ (pA x.fst).snd.fst ∧ (pA x.fst).snd.fst < (18446744073709551616 : Int)) ∧
 ((0 : Int) ≤ x.snd.fst ∧ x.snd.fst < (18446744073709551616 : Int)) ∧
 (0 : Int) ≤ x.snd.snd.fst ∧ x.snd.snd.fst < (18446744073709551616 : Int) →
 ∃ (x_1 : Int × Int × Bool × Int),
 x.fst.fst = x_1.fst ∧
 x.fst.snd.fst = x_1.snd.fst ∧
 x.fst.snd.snd.fst = x_1.snd.snd.fst ∧
 x.fst.snd.snd.snd = x_1.snd.snd.snd ∧
 (((0 : Int) ≤ (pA x_1).fst ∧ (pA x_1).fst < (18446744073709551616 : Int)) ∧
 (0 : Int) ≤ (pA x_1).snd.fst ∧ (pA x_1).snd.fst < (18446744073709551616 : Int)) ∧
 ∀ (y : Unit),
 True →
 ifB (saneP x_1)
 (∃ (x_2 : Ad × Int),
 x.snd.fst = x_2.fst.fst ∧
 x.snd.snd.fst = x_2.fst.snd.fst ∧
 x.snd.snd.snd = x_2.fst.snd.snd ∧
 x.fst.snd.snd.snd = x_2.snd ∧
 (((0 : Int) ≤ x_2.fst.fst ∧ x_2.fst.fst < (18446744073709551616 : Int)) ∧
 (0 : Int) ≤ x_2.fst.snd.fst ∧ x_2.fst.snd.fst < (18446744073709551616 : Int)) ∧
 ∀ (y : Unit),
 True →
 ∃ (y : Unit),
 True ∧
 (decide (x.fst.fst = (ofPf x_2.fst x_2.snd).fst) &&
 (decide (x.fst.snd.fst = (ofPf x_2.fst x_2.snd).snd.fst) &&
 (decide (x.fst.snd.snd.fst = (ofPf x_2.fst x_2.snd).snd.snd.fst) &&
 decide (x.fst.snd.snd.snd = (ofPf x_2.fst x_2.snd).snd.snd.snd)))) =
 contZ x.fst x.snd ∧
 True)
 (∃ (y : Unit), True ∧ false = contZ x.fst x.snd ∧ True)
theorem o_contains : owes Try.prog (tab W1) LqJ 0 137 Try.f137 ContS = T_contains := by kernel_rfl
def T_whole6 : Prop :=
 ∀ (x : Int × Int × Bool),
 ((0 : Int) ≤ x.fst ∧ x.fst < (18446744073709551616 : Int)) ∧
 (0 : Int) ≤ x.snd.fst ∧ x.snd.fst < (18446744073709551616 : Int) →
 ifB (!x.snd.snd)
 (((0 : Int) ≤ (16 : Int) ∧
 (16 : Int) ≤ (16 : Int) ∧ (16 : Int) ≤ (140737488355328 : Int) ∧ (16 : Int) ≤ (140737488355328 : Int)) ∧
 ∃ (y : Unit), True ∧ (16 : Nat) = (whole6 x).length ∧ List.replicate (16 : Nat) (0 : Int) = whole6 x ∧ True)
 (∃ (x_1 : Int × Int × Bool),
 x.fst = x_1.fst ∧
 x.snd.fst = x_1.snd.fst ∧
 x.snd.snd = x_1.snd.snd ∧
 (((0 : Int) ≤ x_1.fst ∧ x_1.fst < (18446744073709551616 : Int)) ∧
 (0 : Int) ≤ x_1.snd.fst ∧ x_1.snd.fst < (18446744073709551616 : Int)) ∧
 ∀ (y : Unit),
 True → ∃ (y : Unit), True ∧ (bytesA x_1).length = (whole6 x).length ∧ bytesA x_1 = whole6 x ∧ True)
theorem o_whole6 : owes Try.prog (tab W1) LqJ 0 125 Try.f125 Whole6S = T_whole6 := by kernel_rfl
def T_grow : Prop :=
 ∀ (x : Int),
 (0 : Int) ≤ x ∧ x ≤ (1000000 : Int) →
 ifB (decide (x < (0 : Int))) False
 (((-9223372036854775808 : Int) ≤ (0 : Int) ∧ (0 : Int) ≤ (9223372036854775807 : Int)) ∧
 ((-9223372036854775808 : Int) ≤ x - (0 : Int) ∧ x - (0 : Int) ≤ (9223372036854775807 : Int)) ∧
 ifB (decide ((0 : Int) < x - (0 : Int)))
 ((0 : Int) = (0 : Int) ∧
 ((0 : Int) < x - (0 : Int) ∧
 (x - (0 : Int)) * (1 : Int) ≤ (140737488355328 : Int) ∧ x - (0 : Int) ≤ (140737488355328 : Int)) ∧
 ((0 : Int) ≤ (0 : Int) ∧ (0 : Int) ≤ (↑(x - (0 : Int)).toNat : Int)) ∧
 ∃ (y : Unit),
 True ∧
 (0 : Nat) = ([] : List Int).length ∧
 List.take (0 : Nat) (List.replicate (x - (0 : Int)).toNat (0 : Int)) = [] ∧ True)
 (∃ (y : Unit), True ∧ (0 : Nat) = ([] : List Int).length ∧ ([] : List Int) = [] ∧ True))
theorem o_grow : owes Try.prog (tab W1) LqJ 0 138 Try.f138 GrowS = T_grow := by kernel_rfl
def T_read6 : Prop :=
 ∀ (x : List Int),
 (∀ (x_1 : Int), List.Mem x_1 x → (0 : Int) ≤ x_1 ∧ x_1 ≤ (255 : Int)) ∧ (40 : Nat) ≤ x.length →
 ((0 : Int) ≤ (4 : Int) ∧ (4 : Int) ≤ (↑x.length : Int)) ∧
 ∃ (x_1 : List Int),
 (4 : Nat) = x_1.length ∧
 List.drop (0 : Nat) (List.take (4 : Nat) x) = x_1 ∧
 ((∀ (x : Int), List.Mem x x_1 → (0 : Int) ≤ x ∧ x ≤ (255 : Int)) ∧ x_1.length ≤ (4 : Nat)) ∧
 ∀ (y : Unit),
 True →
 (0 : Int) ≤ (20 : Int) ∧
 ((0 : Int) ≤ (4 : Int) ∧ (4 : Int) ≤ (6 : Int) ∧ (6 : Int) ≤ (↑x.length : Int)) ∧
 ((0 : Int) ≤ (6 : Int) ∧ (6 : Int) < (↑x.length : Int)) ∧
 ((0 : Int) ≤ (7 : Int) ∧ (7 : Int) < (↑x.length : Int)) ∧
 ((0 : Int) ≤ (8 : Int) ∧
 ((-9223372036854775808 : Int) ≤ (256 : Int) ∧ (256 : Int) ≤ (9223372036854775807 : Int)) ∧
 ((-9223372036854775808 : Int) ≤ (255 : Int) ∧
 (255 : Int) ≤ (9223372036854775807 : Int)) ∧
 ((0 : Int) ≤ (20 : Int) ∧
 ((-9223372036854775808 : Int) ≤ (1048576 : Int) ∧
 (1048576 : Int) ≤ (9223372036854775807 : Int)) ∧
 ((-9223372036854775808 : Int) ≤ (1048575 : Int) ∧
 (1048575 : Int) ≤ (9223372036854775807 : Int)) ∧
 (∃ (x_2 : List Int),
 (2 : Nat) = x_2.length ∧
 List.drop (4 : Nat) (List.take (6 : Nat) x) = x_2 ∧
 ((∀ (x : Int), List.Mem x x_2 → (0 : Int) ≤ x ∧ x ≤ (255 : Int)) ∧
 x_2.length ≤ (4 : Nat)) ∧
 ∀ (y : Unit),
 True →
 ((0 : Int) ≤ (8 : Int) ∧
 (8 : Int) ≤ (24 : Int) ∧ (24 : Int) ≤ (↑x.length : Int)) ∧
 ∃ (x_3 : List Int),
 (16 : Nat) = x_3.length ∧
 List.drop (8 : Nat) (List.take (24 : Nat) x) = x_3 ∧
 (∀ (x : Int),
 List.Mem x x_3 → (0 : Int) ≤ x ∧ x ≤ (255 : Int)) ∧
 ∀ (y : Unit),
 True →
 ((0 : Int) ≤ (24 : Int) ∧
 (24 : Int) ≤ (40 : Int) ∧
 (40 : Int) ≤ (↑x.length : Int)) ∧
 ∃ (x_4 : List Int),
 (16 : Nat) = x_4.length ∧
 List.drop (24 : Nat)
 (List.take (40 : Nat) x) =
 x_4 ∧
 (∀ (x : Int),
 List.Mem x x_4 →
 (0 : Int) ≤ x ∧ x ≤ (255 : Int)) ∧
 ∀ (y : Unit),
 True →
 ∃ (y : Unit),
 True ∧
 bits BinOp.and IntKind.i64
 (numZ x_1 /
 (1048576 : Int))
 (255 : Int) =
 (read6 x).fst ∧
 bits BinOp.and IntKind.i64
 (numZ x_1)
 (1048575 : Int) =
 (read6 x).snd.fst ∧
 numZ x_2 =
 (read6 x).snd.snd.fst ∧
 x.getD (6 : Nat)
 (0 : Int) =
 (read6
 x).snd.snd.snd.fst ∧
 x.getD (7 : Nat)
 (0 : Int) =
 (read6
 x).snd.snd.snd.snd.fst ∧
 (fromE x_3).fst.fst =
 (read6
 x).snd.snd.snd.snd.snd.fst ∧
 (fromE
 x_3).fst.snd.fst =
 (read6
 x).snd.snd.snd.snd.snd.snd.fst ∧
 (fromE
 x_3).fst.snd.snd =
 (read6
 x).snd.snd.snd.snd.snd.snd.snd.fst ∧
 (fromE
 x_4).fst.fst =
 (read6
 x).snd.snd.snd.snd.snd.snd.snd.snd.fst ∧
 (fromE
 x_4).fst.snd.fst =
 (read6
 x).snd.snd.snd.snd.snd.snd.snd.snd.snd.fst ∧
 (fromE
 x_4).fst.snd.snd =
 (read6
 x).snd.snd.snd.snd.snd.snd.snd.snd.snd.snd ∧
 True) ∧
 ∃ (x_2 : List Int),
 (2 : Nat) = x_2.length ∧
 List.drop (4 : Nat) (List.take (6 : Nat) x) = x_2 ∧
 ((∀ (x : Int), List.Mem x x_2 → (0 : Int) ≤ x ∧ x ≤ (255 : Int)) ∧
 x_2.length ≤ (4 : Nat)) ∧
 ∀ (y : Unit),
 True →
 ((0 : Int) ≤ (8 : Int) ∧
 (8 : Int) ≤ (24 : Int) ∧ (24 : Int) ≤ (↑x.length : Int)) ∧
 ∃ (x_3 : List Int),
 (16 : Nat) = x_3.length ∧
 List.drop (8 : Nat) (List.take (24 : Nat) x) = x_3 ∧
 (∀ (x : Int),
 List.Mem x x_3 → (0 : Int) ≤ x ∧ x ≤ (255 : Int)) ∧
 ∀ (y : Unit),
 True →
 ((0 : Int) ≤ (24 : Int) ∧
 (24 : Int) ≤ (40 : Int) ∧
 (40 : Int) ≤ (↑x.length : Int)) ∧
 ∃ (x_4 : List Int),
 (16 : Nat) = x_4.length ∧
 List.drop (24 : Nat)
 (List.take (40 : Nat) x) =
 x_4 ∧
 (∀ (x : Int),
 List.Mem x x_4 →
 (0 : Int) ≤ x ∧ x ≤ (255 : Int)) ∧
 ∀ (y : Unit),
 True →
 ∃ (y : Unit),
 True ∧
 bits BinOp.and IntKind.i64
 (numZ x_1 /
 (1048576 : Int))
 (255 : Int) =
 (read6 x).fst ∧
 bits BinOp.and IntKind.i64
 (numZ x_1)
 (1048575 : Int) =
 (read6 x).snd.fst ∧
 numZ x_2 =
 (read6 x).snd.snd.fst ∧
 x.getD (6 : Nat)
 (0 : Int) =
 (read6
 x).snd.snd.snd.fst ∧
 x.getD (7 : Nat)
 (0 : Int) =
 (read6
 x).snd.snd.snd.snd.fst ∧
 (fromE x_3).fst.fst =
 (read6
 x).snd.snd.snd.snd.snd.fst ∧
 (fromE
 x_3).fst.snd.fst =
 (read6
 x).snd.snd.snd.snd.snd.snd.fst ∧
 (fromE
 x_3).fst.snd.snd =
 (read6
 x).snd.snd.snd.snd.snd.snd.snd.fst ∧
 (fromE
 x_4).fst.fst =
 (read6
 x).snd.snd.snd.snd.snd.snd.snd.snd.fst ∧
 (fromE
 x_4).fst.snd.fst =
 (read6
 x).snd.snd.snd.snd.snd.snd.snd.snd.snd.fst ∧
 (fromE
 x_4).fst.snd.snd =
 (read6
 x).snd.snd.snd.snd.snd.snd.snd.snd.snd.snd ∧
 True) ∧
 (0 : Int) ≤ (20 : Int) ∧
 ((-9223372036854775808 : Int) ≤ (1048576 : Int) ∧
 (1048576 : Int) ≤ (9223372036854775807 : Int)) ∧
 ((-9223372036854775808 : Int) ≤ (1048575 : Int) ∧
 (1048575 : Int) ≤ (9223372036854775807 : Int)) ∧
 ∃ (x_2 : List Int),
 (2 : Nat) = x_2.length ∧
 List.drop (4 : Nat) (List.take (6 : Nat) x) = x_2 ∧
 ((∀ (x : Int), List.Mem x x_2 → (0 : Int) ≤ x ∧ x ≤ (255 : Int)) ∧
 x_2.length ≤ (4 : Nat)) ∧
 ∀ (y : Unit),
 True →
 ((0 : Int) ≤ (8 : Int) ∧
 (8 : Int) ≤ (24 : Int) ∧ (24 : Int) ≤ (↑x.length : Int)) ∧
 ∃ (x_3 : List Int),
 (16 : Nat) = x_3.length ∧
 List.drop (8 : Nat) (List.take (24 : Nat) x) = x_3 ∧
 (∀ (x : Int),
 List.Mem x x_3 → (0 : Int) ≤ x ∧ x ≤ (255 : Int)) ∧
 ∀ (y : Unit),
 True →
 ((0 : Int) ≤ (24 : Int) ∧
 (24 : Int) ≤ (40 : Int) ∧
 (40 : Int) ≤ (↑x.length : Int)) ∧
 ∃ (x_4 : List Int),
 (16 : Nat) = x_4.length ∧
 List.drop (24 : Nat)
 (List.take (40 : Nat) x) =
 x_4 ∧
 (∀ (x : Int),
 List.Mem x x_4 →
 (0 : Int) ≤ x ∧ x ≤ (255 : Int)) ∧
 ∀ (y : Unit),
 True →
 ∃ (y : Unit),
 True ∧
 bits BinOp.and IntKind.i64
 (numZ x_1 / (1048576 : Int))
 (255 : Int) =
 (read6 x).fst ∧
 bits BinOp.and IntKind.i64
 (numZ x_1)
 (1048575 : Int) =
 (read6 x).snd.fst ∧
 numZ x_2 =
 (read6 x).snd.snd.fst ∧
 x.getD (6 : Nat) (0 : Int) =
 (read6
 x).snd.snd.snd.fst ∧
 x.getD (7 : Nat)
 (0 : Int) =
 (read6
 x).snd.snd.snd.snd.fst ∧
 (fromE x_3).fst.fst =
 (read6
 x).snd.snd.snd.snd.snd.fst ∧
 (fromE
 x_3).fst.snd.fst =
 (read6
 x).snd.snd.snd.snd.snd.snd.fst ∧
 (fromE
 x_3).fst.snd.snd =
 (read6
 x).snd.snd.snd.snd.snd.snd.snd.fst ∧
 (fromE
 x_4).fst.fst =
 (read6
 x).snd.snd.snd.snd.snd.snd.snd.snd.fst ∧
 (fromE
 x_4).fst.snd.fst =
 (read6
 x).snd.snd.snd.snd.snd.snd.snd.snd.snd.fst ∧
 (fromE
 x_4).fst.snd.snd =
 (read6
 x).snd.snd.snd.snd.snd.snd.snd.snd.snd.snd ∧
 True) ∧
 (0 : Int) ≤ (8 : Int) ∧
 ((-9223372036854775808 : Int) ≤ (256 : Int) ∧ (256 : Int) ≤ (9223372036854775807 : Int)) ∧
 ((-9223372036854775808 : Int) ≤ (255 : Int) ∧
 (255 : Int) ≤ (9223372036854775807 : Int)) ∧
 (0 : Int) ≤ (20 : Int) ∧
 ((-9223372036854775808 : Int) ≤ (1048576 : Int) ∧
 (1048576 : Int) ≤ (9223372036854775807 : Int)) ∧
 ((-9223372036854775808 : Int) ≤ (1048575 : Int) ∧
 (1048575 : Int) ≤ (9223372036854775807 : Int)) ∧
 ∃ (x_2 : List Int),
 (2 : Nat) = x_2.length ∧
 List.drop (4 : Nat) (List.take (6 : Nat) x) = x_2 ∧
 ((∀ (x : Int), List.Mem x x_2 → (0 : Int) ≤ x ∧ x ≤ (255 : Int)) ∧
 x_2.length ≤ (4 : Nat)) ∧
 ∀ (y : Unit),
 True →
 ((0 : Int) ≤ (8 : Int) ∧
 (8 : Int) ≤ (24 : Int) ∧ (24 : Int) ≤ (↑x.length : Int)) ∧
 ∃ (x_3 : List Int),
 (16 : Nat) = x_3.length ∧
 List.drop (8 : Nat) (List.take (24 : Nat) x) = x_3 ∧
 (∀ (x : Int),
 List.Mem x x_3 → (0 : Int) ≤ x ∧ x ≤ (255 : Int)) ∧
 ∀ (y : Unit),
 True →
 ((0 : Int) ≤ (24 : Int) ∧
 (24 : Int) ≤ (40 : Int) ∧
 (40 : Int) ≤ (↑x.length : Int)) ∧
 ∃ (x_4 : List Int),
 (16 : Nat) = x_4.length ∧
 List.drop (24 : Nat) (List.take (40 : Nat) x) =
 x_4 ∧
 (∀ (x : Int),
 List.Mem x x_4 →
 (0 : Int) ≤ x ∧ x ≤ (255 : Int)) ∧
 ∀ (y : Unit),
 True →
 ∃ (y : Unit),
 True ∧
 bits BinOp.and IntKind.i64
 (numZ x_1 / (1048576 : Int))
 (255 : Int) =
 (read6 x).fst ∧
 bits BinOp.and IntKind.i64
 (numZ x_1) (1048575 : Int) =
 (read6 x).snd.fst ∧
 numZ x_2 =
 (read6 x).snd.snd.fst ∧
 x.getD (6 : Nat) (0 : Int) =
 (read6
 x).snd.snd.snd.fst ∧
 x.getD (7 : Nat) (0 : Int) =
 (read6
 x).snd.snd.snd.snd.fst ∧
 (fromE x_3).fst.fst =
 (read6
 x).snd.snd.snd.snd.snd.fst ∧
 (fromE
 x_3).fst.snd.fst =
 (read6
 x).snd.snd.snd.snd.snd.snd.fst ∧
 (fromE
 x_3).fst.snd.snd =
 (read6
 x).snd.snd.snd.snd.snd.snd.snd.fst ∧
 (fromE
 x_4).fst.fst =
 (read6
 x).snd.snd.snd.snd.snd.snd.snd.snd.fst ∧
 (fromE
 x_4).fst.snd.fst =
 (read6
 x).snd.snd.snd.snd.snd.snd.snd.snd.snd.fst ∧
 (fromE
 x_4).fst.snd.snd =
 (read6
 x).snd.snd.snd.snd.snd.snd.snd.snd.snd.snd ∧
 True
theorem o_read6 : owes Try.prog (tab J0) LqJ 1 121 Try.f121 Read6S = T_read6 := by kernel_rfl
def T_strange6 : Prop :=
 ∀ (x : Ad × Ad),
 (((0 : Int) ≤ x.fst.fst ∧ x.fst.fst < (18446744073709551616 : Int)) ∧
 (0 : Int) ≤ x.fst.snd.fst ∧ x.fst.snd.fst < (18446744073709551616 : Int)) ∧
 ((0 : Int) ≤ x.snd.fst ∧ x.snd.fst < (18446744073709551616 : Int)) ∧
 (0 : Int) ≤ x.snd.snd.fst ∧ x.snd.snd.fst < (18446744073709551616 : Int) →
 ∃ (x_1 : Ad × Int),
 (18374686479671623680 : Int) = x_1.fst.fst ∧
 (0 : Int) = x_1.fst.snd.fst ∧
 true = x_1.fst.snd.snd ∧
 (8 : Int) = x_1.snd ∧
 (((0 : Int) ≤ x_1.fst.fst ∧ x_1.fst.fst < (18446744073709551616 : Int)) ∧
 (0 : Int) ≤ x_1.fst.snd.fst ∧ x_1.fst.snd.fst < (18446744073709551616 : Int)) ∧
 ∀ (y : Unit),
 True →
 ∃ (x_2 : Pf × Ad),
 (ofPf x_1.fst x_1.snd).fst = x_2.fst.fst ∧
 (ofPf x_1.fst x_1.snd).snd.fst = x_2.fst.snd.fst ∧
 (ofPf x_1.fst x_1.snd).snd.snd.fst = x_2.fst.snd.snd.fst ∧
 (ofPf x_1.fst x_1.snd).snd.snd.snd = x_2.fst.snd.snd.snd ∧
 x.fst.fst = x_2.snd.fst ∧
 x.fst.snd.fst = x_2.snd.snd.fst ∧
 x.fst.snd.snd = x_2.snd.snd.snd ∧
 ((((0 : Int) ≤ (pA x_2.fst).fst ∧ (pA x_2.fst).fst < (18446744073709551616 : Int)) ∧
 (0 : Int) ≤ (pA x_2.fst).snd.fst ∧
 (pA x_2.fst).snd.fst < (18446744073709551616 : Int)) ∧
 ((0 : Int) ≤ x_2.snd.fst ∧ x_2.snd.fst < (18446744073709551616 : Int)) ∧
 (0 : Int) ≤ x_2.snd.snd.fst ∧
 x_2.snd.snd.fst < (18446744073709551616 : Int)) ∧
 ∀ (y : Unit),
 True →
 ifB (contZ x_2.fst x_2.snd)
 (∃ (y : Unit), True ∧ true = strange6 x.fst x.snd ∧ True)
 (ifB
 (decide (x.fst.fst = (0 : Int)) &&
 (decide (x.fst.snd.fst = (1 : Int)) && decide (x.fst.snd.snd = true)))
 (∃ (y : Unit), True ∧ true = strange6 x.fst x.snd ∧ True)
 (∃ (y : Unit),
 True ∧
 (decide (x.snd.fst = (0 : Int)) &&
 (decide (x.snd.snd.fst = (0 : Int)) &&
 decide (x.snd.snd.snd = true))) =
 strange6 x.fst x.snd ∧
 True))
theorem o_strange6 : owes Try.prog (tab J0) LqJ 0 122 Try.f122 Strange6S = T_strange6 := by kernel_rfl
def T_parse6 : Prop :=
 ∀ (x : List Int),
 (∀ (x_1 : Int), List.Mem x_1 x → (0 : Int) ≤ x_1 ∧ x_1 ≤ (255 : Int)) ∧ x.length ≤ most →
 ifB (decide ((↑x.length : Int) < (40 : Int)))
 (∃ (y : Unit),
 True ∧
 (0 : Int) = (parse6 x).fst.fst ∧
 (0 : Int) = (parse6 x).fst.snd.fst ∧
 (0 : Int) = (parse6 x).fst.snd.snd.fst ∧
 (0 : Int) = (parse6 x).fst.snd.snd.snd.fst ∧
 (0 : Int) = (parse6 x).fst.snd.snd.snd.snd.fst ∧
 (0 : Int) = (parse6 x).fst.snd.snd.snd.snd.snd.fst ∧
 (0 : Int) = (parse6 x).fst.snd.snd.snd.snd.snd.snd.fst ∧
 false = (parse6 x).fst.snd.snd.snd.snd.snd.snd.snd.fst ∧
 (0 : Int) = (parse6 x).fst.snd.snd.snd.snd.snd.snd.snd.snd.fst ∧
 (0 : Int) = (parse6 x).fst.snd.snd.snd.snd.snd.snd.snd.snd.snd.fst ∧
 false = (parse6 x).fst.snd.snd.snd.snd.snd.snd.snd.snd.snd.snd ∧
 (1 : Int) = (parse6 x).snd ∧ True)
 (∃ (x_1 : List Int),
 x.length = x_1.length ∧
 x = x_1 ∧
 ((∀ (x : Int), List.Mem x x_1 → (0 : Int) ≤ x ∧ x ≤ (255 : Int)) ∧ (40 : Nat) ≤ x_1.length) ∧
 ∀ (y : Unit),
 True →
 ((0 : Int) ≤ (0 : Int) ∧ (0 : Int) < (↑x.length : Int)) ∧
 (0 : Int) ≤ (4 : Int) ∧
 ifB (!decide (x.getD (0 : Nat) (0 : Int) / (16 : Int) = (6 : Int)))
 (∃ (y : Unit),
 True ∧
 (0 : Int) = (parse6 x).fst.fst ∧
 (0 : Int) = (parse6 x).fst.snd.fst ∧
 (0 : Int) = (parse6 x).fst.snd.snd.fst ∧
 (0 : Int) = (parse6 x).fst.snd.snd.snd.fst ∧
 (0 : Int) = (parse6 x).fst.snd.snd.snd.snd.fst ∧
 (0 : Int) = (parse6 x).fst.snd.snd.snd.snd.snd.fst ∧
 (0 : Int) = (parse6 x).fst.snd.snd.snd.snd.snd.snd.fst ∧
 false = (parse6 x).fst.snd.snd.snd.snd.snd.snd.snd.fst ∧
 (0 : Int) = (parse6 x).fst.snd.snd.snd.snd.snd.snd.snd.snd.fst ∧
 (0 : Int) = (parse6 x).fst.snd.snd.snd.snd.snd.snd.snd.snd.snd.fst ∧
 false = (parse6 x).fst.snd.snd.snd.snd.snd.snd.snd.snd.snd.snd ∧
 (2 : Int) = (parse6 x).snd ∧ True)
 (((-9223372036854775808 : Int) ≤ (↑x.length : Int) - (40 : Int) ∧
 (↑x.length : Int) - (40 : Int) ≤ (9223372036854775807 : Int)) ∧
 ifB (decide ((↑x.length : Int) - (40 : Int) < (read6 x_1).snd.snd.fst))
 (∃ (y : Unit),
 True ∧
 (0 : Int) = (parse6 x).fst.fst ∧
 (0 : Int) = (parse6 x).fst.snd.fst ∧
 (0 : Int) = (parse6 x).fst.snd.snd.fst ∧
 (0 : Int) = (parse6 x).fst.snd.snd.snd.fst ∧
 (0 : Int) = (parse6 x).fst.snd.snd.snd.snd.fst ∧
 (0 : Int) = (parse6 x).fst.snd.snd.snd.snd.snd.fst ∧
 (0 : Int) = (parse6 x).fst.snd.snd.snd.snd.snd.snd.fst ∧
 false = (parse6 x).fst.snd.snd.snd.snd.snd.snd.snd.fst ∧
 (0 : Int) = (parse6 x).fst.snd.snd.snd.snd.snd.snd.snd.snd.fst ∧
 (0 : Int) = (parse6 x).fst.snd.snd.snd.snd.snd.snd.snd.snd.snd.fst ∧
 false = (parse6 x).fst.snd.snd.snd.snd.snd.snd.snd.snd.snd.snd ∧
 (4 : Int) = (parse6 x).snd ∧ True)
 (∃ (x_2 : Ad × Ad),
 (read6 x_1).snd.snd.snd.snd.snd.fst = x_2.fst.fst ∧
 (read6 x_1).snd.snd.snd.snd.snd.snd.fst = x_2.fst.snd.fst ∧
 (read6 x_1).snd.snd.snd.snd.snd.snd.snd.fst = x_2.fst.snd.snd ∧
 (read6 x_1).snd.snd.snd.snd.snd.snd.snd.snd.fst = x_2.snd.fst ∧
 (read6 x_1).snd.snd.snd.snd.snd.snd.snd.snd.snd.fst = x_2.snd.snd.fst ∧
 (read6 x_1).snd.snd.snd.snd.snd.snd.snd.snd.snd.snd = x_2.snd.snd.snd ∧
 ((((0 : Int) ≤ x_2.fst.fst ∧ x_2.fst.fst < (18446744073709551616 : Int)) ∧
 (0 : Int) ≤ x_2.fst.snd.fst ∧
 x_2.fst.snd.fst < (18446744073709551616 : Int)) ∧
 ((0 : Int) ≤ x_2.snd.fst ∧ x_2.snd.fst < (18446744073709551616 : Int)) ∧
 (0 : Int) ≤ x_2.snd.snd.fst ∧
 x_2.snd.snd.fst < (18446744073709551616 : Int)) ∧
 ∀ (y : Unit),
 True →
 ifB (strange6 x_2.fst x_2.snd)
 (∃ (y : Unit),
 True ∧
 (0 : Int) = (parse6 x).fst.fst ∧
 (0 : Int) = (parse6 x).fst.snd.fst ∧
 (0 : Int) = (parse6 x).fst.snd.snd.fst ∧
 (0 : Int) = (parse6 x).fst.snd.snd.snd.fst ∧
 (0 : Int) = (parse6 x).fst.snd.snd.snd.snd.fst ∧
 (0 : Int) = (parse6 x).fst.snd.snd.snd.snd.snd.fst ∧
 (0 : Int) =
 (parse6 x).fst.snd.snd.snd.snd.snd.snd.fst ∧
 false =
 (parse6 x).fst.snd.snd.snd.snd.snd.snd.snd.fst ∧
 (0 : Int) =
 (parse6
 x).fst.snd.snd.snd.snd.snd.snd.snd.snd.fst ∧
 (0 : Int) =
 (parse6
 x).fst.snd.snd.snd.snd.snd.snd.snd.snd.snd.fst ∧
 false =
 (parse6
 x).fst.snd.snd.snd.snd.snd.snd.snd.snd.snd.snd ∧
 (6 : Int) = (parse6 x).snd ∧ True)
 (∃ (y : Unit),
 True ∧
 (read6 x_1).fst = (parse6 x).fst.fst ∧
 (read6 x_1).snd.fst = (parse6 x).fst.snd.fst ∧
 (read6 x_1).snd.snd.fst = (parse6 x).fst.snd.snd.fst ∧
 (read6 x_1).snd.snd.snd.fst =
 (parse6 x).fst.snd.snd.snd.fst ∧
 (read6 x_1).snd.snd.snd.snd.fst =
 (parse6 x).fst.snd.snd.snd.snd.fst ∧
 (read6 x_1).snd.snd.snd.snd.snd.fst =
 (parse6 x).fst.snd.snd.snd.snd.snd.fst ∧
 (read6 x_1).snd.snd.snd.snd.snd.snd.fst =
 (parse6 x).fst.snd.snd.snd.snd.snd.snd.fst ∧
 (read6 x_1).snd.snd.snd.snd.snd.snd.snd.fst =
 (parse6 x).fst.snd.snd.snd.snd.snd.snd.snd.fst ∧
 (read6 x_1).snd.snd.snd.snd.snd.snd.snd.snd.fst =
 (parse6
 x).fst.snd.snd.snd.snd.snd.snd.snd.snd.fst ∧
 (read6
 x_1).snd.snd.snd.snd.snd.snd.snd.snd.snd.fst =
 (parse6
 x).fst.snd.snd.snd.snd.snd.snd.snd.snd.snd.fst ∧
 (read6
 x_1).snd.snd.snd.snd.snd.snd.snd.snd.snd.snd =
 (parse6
 x).fst.snd.snd.snd.snd.snd.snd.snd.snd.snd.snd ∧
 (0 : Int) = (parse6 x).snd ∧ True))))
theorem o_parse6 : owes Try.prog (tab J1) LqJ 0 80 Try.f80 Parse6S = T_parse6 := by kernel_rfl
def T_hop6 : Prop :=
 ∀ (x : List Int),
 (∀ (x_1 : Int), List.Mem x_1 x → (0 : Int) ≤ x_1 ∧ x_1 ≤ (255 : Int)) ∧ x.length ≤ most →
 ∃ (x_1 : List Int),
 x.length = x_1.length ∧
 x = x_1 ∧
 ((∀ (x : Int), List.Mem x x_1 → (0 : Int) ≤ x ∧ x ≤ (255 : Int)) ∧ x_1.length ≤ most) ∧
 ∀ (y : Unit),
 True →
 ifB (!decide ((parse6 x_1).snd = (0 : Int)))
 (∃ (y : Unit),
 True ∧ (0 : Nat) = (hop6 x).fst.length ∧ false = (hop6 x).snd ∧ [] = (hop6 x).fst ∧ True)
 (ifB (decide ((parse6 x_1).fst.snd.snd.snd.snd.fst < (2 : Int)))
 (∃ (y : Unit),
 True ∧ (0 : Nat) = (hop6 x).fst.length ∧ false = (hop6 x).snd ∧ [] = (hop6 x).fst ∧ True)
 (((-9223372036854775808 : Int) ≤ (40 : Int) + (parse6 x_1).fst.snd.snd.fst ∧
 (40 : Int) + (parse6 x_1).fst.snd.snd.fst ≤ (9223372036854775807 : Int)) ∧
 ((0 : Int) ≤ (40 : Int) + (parse6 x_1).fst.snd.snd.fst ∧
 (40 : Int) + (parse6 x_1).fst.snd.snd.fst ≤ (↑x.length : Int)) ∧
 ∃ (x_2 : List Int),
 ((40 : Int) + (parse6 x_1).fst.snd.snd.fst).toNat - (0 : Nat) = x_2.length ∧
 List.drop (0 : Nat) (List.take ((40 : Int) + (parse6 x_1).fst.snd.snd.fst).toNat x) = x_2 ∧
 x_2.length ≤ most ∧
 ∀ (y : Unit),
 True →
 ((0 : Int) ≤ (7 : Int) ∧ (7 : Int) < (↑x_2.length : Int)) ∧
 ((0 : Int) ≤ (7 : Int) ∧ (7 : Int) < (↑x_2.length : Int)) ∧
 ∃ (y : Unit),
 True ∧
 x_2.length = (hop6 x).fst.length ∧
 true = (hop6 x).snd ∧
 x_2.set (7 : Nat)
 ((x_2.getD (7 : Nat) (0 : Int) - (1 : Int)) % (256 : Int)) =
 (hop6 x).fst ∧
 True))
theorem o_hop6 : owes Try.prog (tab J2) LqJ 0 82 Try.f82 Hop6S = T_hop6 := by kernel_rfl
def T_build6 : Prop :=
 ∀ (x : H6 × List Int),
 (((((0 : Int) ≤ (src6 x.fst).fst ∧ (src6 x.fst).fst < (18446744073709551616 : Int)) ∧
 (0 : Int) ≤ (src6 x.fst).snd.fst ∧ (src6 x.fst).snd.fst < (18446744073709551616 : Int)) ∧
 ((0 : Int) ≤ (dst6 x.fst).fst ∧ (dst6 x.fst).fst < (18446744073709551616 : Int)) ∧
 (0 : Int) ≤ (dst6 x.fst).snd.fst ∧ (dst6 x.fst).snd.fst < (18446744073709551616 : Int)) ∧
 ∀ (x_1 : Int), List.Mem x_1 x.snd → (0 : Int) ≤ x_1 ∧ x_1 ≤ (255 : Int)) →
 ((0 : Int) ≤ min (↑x.snd.length : Int) (2008 : Int) ∧
 min (↑x.snd.length : Int) (2008 : Int) ≤ (↑x.snd.length : Int)) ∧
 (0 : Int) ≤ (8 : Int) ∧
 ((-9223372036854775808 : Int) ≤ (256 : Int) ∧ (256 : Int) ≤ (9223372036854775807 : Int)) ∧
 ((-9223372036854775808 : Int) ≤ (255 : Int) ∧ (255 : Int) ≤ (9223372036854775807 : Int)) ∧
 (0 : Int) ≤ (20 : Int) ∧
 ((-9223372036854775808 : Int) ≤ bits BinOp.and IntKind.i64 x.fst.fst (255 : Int) * (1048576 : Int) ∧
 bits BinOp.and IntKind.i64 x.fst.fst (255 : Int) * (1048576 : Int) ≤ (9223372036854775807 : Int)) ∧
 (0 : Int) ≤ (20 : Int) ∧
 ((-9223372036854775808 : Int) ≤ (1048576 : Int) ∧ (1048576 : Int) ≤ (9223372036854775807 : Int)) ∧
 ((-9223372036854775808 : Int) ≤ (1048575 : Int) ∧ (1048575 : Int) ≤ (9223372036854775807 : Int)) ∧
 (0 : Int) ≤ (24 : Int) ∧
 (0 : Int) ≤ (16 : Int) ∧
 (0 : Int) ≤ (8 : Int) ∧
 (0 : Int) ≤ (8 : Int) ∧
 ∃ (x_1 : Int × Int × Bool),
 x.fst.snd.snd.snd.snd.snd.fst = x_1.fst ∧
 x.fst.snd.snd.snd.snd.snd.snd.fst = x_1.snd.fst ∧
 x.fst.snd.snd.snd.snd.snd.snd.snd.fst = x_1.snd.snd ∧
 (((0 : Int) ≤ x_1.fst ∧ x_1.fst < (18446744073709551616 : Int)) ∧
 (0 : Int) ≤ x_1.snd.fst ∧ x_1.snd.fst < (18446744073709551616 : Int)) ∧
 ∀ (y : Unit),
 True →
 ∃ (x_2 : Int × Int × Bool),
 x.fst.snd.snd.snd.snd.snd.snd.snd.snd.fst = x_2.fst ∧
 x.fst.snd.snd.snd.snd.snd.snd.snd.snd.snd.fst = x_2.snd.fst ∧
 x.fst.snd.snd.snd.snd.snd.snd.snd.snd.snd.snd = x_2.snd.snd ∧
 (((0 : Int) ≤ x_2.fst ∧ x_2.fst < (18446744073709551616 : Int)) ∧
 (0 : Int) ≤ x_2.snd.fst ∧
 x_2.snd.fst < (18446744073709551616 : Int)) ∧
 ∀ (y : Unit),
 True →
 ((0 : Int) ≤ (0 : Int) ∧ (0 : Int) < (4 : Int)) ∧
 ((-9223372036854775808 : Int) ≤ (8 : Int) ∧
 (8 : Int) ≤ (9223372036854775807 : Int)) ∧
 ((-9223372036854775808 : Int) ≤ (1 : Int) ∧
 (1 : Int) ≤ (9223372036854775807 : Int)) ∧
 ((0 : Int) ≤ (1 : Int) ∧ (1 : Int) < (4 : Int)) ∧
 ((-9223372036854775808 : Int) ≤
 (8 : Int) + (↑(whole6 x_1).length : Int) ∧
 (8 : Int) + (↑(whole6 x_1).length : Int) ≤
 (9223372036854775807 : Int)) ∧
 ((-9223372036854775808 : Int) ≤ (2 : Int) ∧
 (2 : Int) ≤ (9223372036854775807 : Int)) ∧
 ((0 : Int) ≤ (2 : Int) ∧ (2 : Int) < (4 : Int)) ∧
 ((-9223372036854775808 : Int) ≤
 (8 : Int) + (↑(whole6 x_1).length : Int) +
 (↑(whole6 x_2).length : Int) ∧
 (8 : Int) + (↑(whole6 x_1).length : Int) +
 (↑(whole6 x_2).length : Int) ≤
 (9223372036854775807 : Int)) ∧
 ((-9223372036854775808 : Int) ≤ (3 : Int) ∧
 (3 : Int) ≤ (9223372036854775807 : Int)) ∧
 ((0 : Int) ≤ (3 : Int) ∧
 (3 : Int) < (4 : Int)) ∧
 ((-9223372036854775808 : Int) ≤
 (8 : Int) +
 (↑(whole6 x_1).length : Int) +
 (↑(whole6 x_2).length : Int) +
 (↑((min (↑x.snd.length : Int)
 (2008 : Int)).toNat -
 (0 : Nat)) :
 Int) ∧
 (8 : Int) +
 (↑(whole6 x_1).length : Int) +
 (↑(whole6 x_2).length : Int) +
 (↑((min (↑x.snd.length : Int)
 (2008 : Int)).toNat -
 (0 : Nat)) :
 Int) ≤
 (9223372036854775807 : Int)) ∧
 ((-9223372036854775808 : Int) ≤
 (4 : Int) ∧
 (4 : Int) ≤
 (9223372036854775807 : Int)) ∧
 ∃ (x_3 : Int),
 (8 : Int) +
 (↑(whole6 x_1).length :
 Int) +
 (↑(whole6 x_2).length :
 Int) +
 (↑((min (↑x.snd.length : Int)
 (2008 :
 Int)).toNat -
 (0 : Nat)) :
 Int) =
 x_3 ∧
 ((0 : Int) ≤ x_3 ∧
 x_3 ≤ (1000000 : Int)) ∧
 ∀ (y : Unit),
 True →
 ((0 : Int) ≤ (0 : Int) ∧
 (0 : Int) < (4 : Int)) ∧
 ((([] : List Int).length +
 [bits BinOp.or
 IntKind.i64
 (bits
 BinOp.or
 IntKind.i64
 (1610612736 :
 Int)
 (bits
 BinOp.and
 IntKind.i64
 x.fst.fst
 (255 :
 Int) *
 (1048576 :
 Int)))
 (bits
 BinOp.and
 IntKind.i64
 x.fst.snd.fst
 (1048575 :
 Int)) /
 (16777216 :
 Int) %
 (256 :
 Int),
 bits
 BinOp.or
 IntKind.i64
 (bits
 BinOp.or
 IntKind.i64
 (1610612736 :
 Int)
 (bits
 BinOp.and
 IntKind.i64
 x.fst.fst
 (255 :
 Int) *
 (1048576 :
 Int)))
 (bits
 BinOp.and
 IntKind.i64
 x.fst.snd.fst
 (1048575 :
 Int)) /
 (65536 :
 Int) %
 (256 :
 Int),
 bits
 BinOp.or
 IntKind.i64
 (bits
 BinOp.or
 IntKind.i64
 (1610612736 :
 Int)
 (bits
 BinOp.and
 IntKind.i64
 x.fst.fst
 (255 :
 Int) *
 (1048576 :
 Int)))
 (bits
 BinOp.and
 IntKind.i64
 x.fst.snd.fst
 (1048575 :
 Int)) /
 (256 :
 Int) %
 (256 :
 Int),
 bits
 BinOp.or
 IntKind.i64
 (bits
 BinOp.or
 IntKind.i64
 (1610612736 :
 Int)
 (bits
 BinOp.and
 IntKind.i64
 x.fst.fst
 (255 :
 Int) *
 (1048576 :
 Int)))
 (bits
 BinOp.and
 IntKind.i64
 x.fst.snd.fst
 (1048575 :
 Int)) %
 (256 :
 Int),
 (↑((min
 (↑x.snd.length :
 Int)
 (2008 :
 Int)).toNat -
 (0 :
 Nat)) :
 Int) /
 (256 :
 Int) %
 (256 :
 Int),
 (↑((min
 (↑x.snd.length :
 Int)
 (2008 :
 Int)).toNat -
 (0 :
 Nat)) :
 Int) %
 (256 :
 Int),
 x.fst.snd.snd.snd.fst %
 (256 :
 Int),
 x.fst.snd.snd.snd.snd.fst %
 (256 :
 Int)].length) *
 (1 : Nat) ≤
 (140737488355328 :
 Nat) ∧
 ([] : List Int).length +
 [bits BinOp.or
 IntKind.i64
 (bits
 BinOp.or
 IntKind.i64
 (1610612736 :
 Int)
 (bits
 BinOp.and
 IntKind.i64
 x.fst.fst
 (255 :
 Int) *
 (1048576 :
 Int)))
 (bits
 BinOp.and
 IntKind.i64
 x.fst.snd.fst
 (1048575 :
 Int)) /
 (16777216 :
 Int) %
 (256 : Int),
 bits BinOp.or
 IntKind.i64
 (bits
 BinOp.or
 IntKind.i64
 (1610612736 :
 Int)
 (bits
 BinOp.and
 IntKind.i64
 x.fst.fst
 (255 :
 Int) *
 (1048576 :
 Int)))
 (bits
 BinOp.and
 IntKind.i64
 x.fst.snd.fst
 (1048575 :
 Int)) /
 (65536 :
 Int) %
 (256 : Int),
 bits BinOp.or
 IntKind.i64
 (bits
 BinOp.or
 IntKind.i64
 (1610612736 :
 Int)
 (bits
 BinOp.and
 IntKind.i64
 x.fst.fst
 (255 :
 Int) *
 (1048576 :
 Int)))
 (bits
 BinOp.and
 IntKind.i64
 x.fst.snd.fst
 (1048575 :
 Int)) /
 (256 :
 Int) %
 (256 : Int),
 bits BinOp.or
 IntKind.i64
 (bits
 BinOp.or
 IntKind.i64
 (1610612736 :
 Int)
 (bits
 BinOp.and
 IntKind.i64
 x.fst.fst
 (255 :
 Int) *
 (1048576 :
 Int)))
 (bits
 BinOp.and
 IntKind.i64
 x.fst.snd.fst
 (1048575 :
 Int)) %
 (256 : Int),
 (↑((min
 (↑x.snd.length :
 Int)
 (2008 :
 Int)).toNat -
 (0 :
 Nat)) :
 Int) /
 (256 :
 Int) %
 (256 : Int),
 (↑((min
 (↑x.snd.length :
 Int)
 (2008 :
 Int)).toNat -
 (0 :
 Nat)) :
 Int) %
 (256 : Int),
 x.fst.snd.snd.snd.fst %
 (256 : Int),
 x.fst.snd.snd.snd.snd.fst %
 (256 :
 Int)].length ≤
 (140737488355328 :
 Nat)) ∧
 ((-9223372036854775808 :
 Int) ≤
 (1 : Int) ∧
 (1 : Int) ≤
 (9223372036854775807 :
 Int)) ∧
 ((0 : Int) ≤
 (1 : Int) ∧
 (1 : Int) <
 (4 : Int)) ∧
 ((([] : List Int).length +
 [bits
 BinOp.or
 IntKind.i64
 (bits
 BinOp.or
 IntKind.i64
 (1610612736 :
 Int)
 (bits
 BinOp.and
 IntKind.i64
 x.fst.fst
 (255 :
 Int) *
 (1048576 :
 Int)))
 (bits
 BinOp.and
 IntKind.i64
 x.fst.snd.fst
 (1048575 :
 Int)) /
 (16777216 :
 Int) %
 (256 :
 Int),
 bits
 BinOp.or
 IntKind.i64
 (bits
 BinOp.or
 IntKind.i64
 (1610612736 :
 Int)
 (bits
 BinOp.and
 IntKind.i64
 x.fst.fst
 (255 :
 Int) *
 (1048576 :
 Int)))
 (bits
 BinOp.and
 IntKind.i64
 x.fst.snd.fst
 (1048575 :
 Int)) /
 (65536 :
 Int) %
 (256 :
 Int),
 bits
 BinOp.or
 IntKind.i64
 (bits
 BinOp.or
 IntKind.i64
 (1610612736 :
 Int)
 (bits
 BinOp.and
 IntKind.i64
 x.fst.fst
 (255 :
 Int) *
 (1048576 :
 Int)))
 (bits
 BinOp.and
 IntKind.i64
 x.fst.snd.fst
 (1048575 :
 Int)) /
 (256 :
 Int) %
 (256 :
 Int),
 bits
 BinOp.or
 IntKind.i64
 (bits
 BinOp.or
 IntKind.i64
 (1610612736 :
 Int)
 (bits
 BinOp.and
 IntKind.i64
 x.fst.fst
 (255 :
 Int) *
 (1048576 :
 Int)))
 (bits
 BinOp.and
 IntKind.i64
 x.fst.snd.fst
 (1048575 :
 Int)) %
 (256 :
 Int),
 (↑((min
 (↑x.snd.length :
 Int)
 (2008 :
 Int)).toNat -
 (0 :
 Nat)) :
 Int) /
 (256 :
 Int) %
 (256 :
 Int),
 (↑((min
 (↑x.snd.length :
 Int)
 (2008 :
 Int)).toNat -
 (0 :
 Nat)) :
 Int) %
 (256 :
 Int),
 x.fst.snd.snd.snd.fst %
 (256 :
 Int),
 x.fst.snd.snd.snd.snd.fst %
 (256 :
 Int)].length +
 (whole6
 x_1).length) *
 (1 : Nat) ≤
 (140737488355328 :
 Nat) ∧
 ([] : List Int).length +
 [bits
 BinOp.or
 IntKind.i64
 (bits
 BinOp.or
 IntKind.i64
 (1610612736 :
 Int)
 (bits
 BinOp.and
 IntKind.i64
 x.fst.fst
 (255 :
 Int) *
 (1048576 :
 Int)))
 (bits
 BinOp.and
 IntKind.i64
 x.fst.snd.fst
 (1048575 :
 Int)) /
 (16777216 :
 Int) %
 (256 :
 Int),
 bits
 BinOp.or
 IntKind.i64
 (bits
 BinOp.or
 IntKind.i64
 (1610612736 :
 Int)
 (bits
 BinOp.and
 IntKind.i64
 x.fst.fst
 (255 :
 Int) *
 (1048576 :
 Int)))
 (bits
 BinOp.and
 IntKind.i64
 x.fst.snd.fst
 (1048575 :
 Int)) /
 (65536 :
 Int) %
 (256 :
 Int),
 bits
 BinOp.or
 IntKind.i64
 (bits
 BinOp.or
 IntKind.i64
 (1610612736 :
 Int)
 (bits
 BinOp.and
 IntKind.i64
 x.fst.fst
 (255 :
 Int) *
 (1048576 :
 Int)))
 (bits
 BinOp.and
 IntKind.i64
 x.fst.snd.fst
 (1048575 :
 Int)) /
 (256 :
 Int) %
 (256 :
 Int),
 bits
 BinOp.or
 IntKind.i64
 (bits
 BinOp.or
 IntKind.i64
 (1610612736 :
 Int)
 (bits
 BinOp.and
 IntKind.i64
 x.fst.fst
 (255 :
 Int) *
 (1048576 :
 Int)))
 (bits
 BinOp.and
 IntKind.i64
 x.fst.snd.fst
 (1048575 :
 Int)) %
 (256 :
 Int),
 (↑((min
 (↑x.snd.length :
 Int)
 (2008 :
 Int)).toNat -
 (0 :
 Nat)) :
 Int) /
 (256 :
 Int) %
 (256 :
 Int),
 (↑((min
 (↑x.snd.length :
 Int)
 (2008 :
 Int)).toNat -
 (0 :
 Nat)) :
 Int) %
 (256 :
 Int),
 x.fst.snd.snd.snd.fst %
 (256 :
 Int),
 x.fst.snd.snd.snd.snd.fst %
 (256 :
 Int)].length +
 (whole6
 x_1).length ≤
 (140737488355328 :
 Nat)) ∧
 ((-9223372036854775808 :
 Int) ≤
 (2 : Int) ∧
 (2 : Int) ≤
 (9223372036854775807 :
 Int)) ∧
 ((0 : Int) ≤
 (2 :
 Int) ∧
 (2 : Int) <
 (4 :
 Int)) ∧
 ((([] : List Int).length +
 [bits
 BinOp.or
 IntKind.i64
 (bits
 BinOp.or
 IntKind.i64
 (1610612736 :
 Int)
 (bits
 BinOp.and
 IntKind.i64
 x.fst.fst
 (255 :
 Int) *
 (1048576 :
 Int)))
 (bits
 BinOp.and
 IntKind.i64
 x.fst.snd.fst
 (1048575 :
 Int)) /
 (16777216 :
 Int) %
 (256 :
 Int),
 bits
 BinOp.or
 IntKind.i64
 (bits
 BinOp.or
 IntKind.i64
 (1610612736 :
 Int)
 (bits
 BinOp.and
 IntKind.i64
 x.fst.fst
 (255 :
 Int) *
 (1048576 :
 Int)))
 (bits
 BinOp.and
 IntKind.i64
 x.fst.snd.fst
 (1048575 :
 Int)) /
 (65536 :
 Int) %
 (256 :
 Int),
 bits
 BinOp.or
 IntKind.i64
 (bits
 BinOp.or
 IntKind.i64
 (1610612736 :
 Int)
 (bits
 BinOp.and
 IntKind.i64
 x.fst.fst
 (255 :
 Int) *
 (1048576 :
 Int)))
 (bits
 BinOp.and
 IntKind.i64
 x.fst.snd.fst
 (1048575 :
 Int)) /
 (256 :
 Int) %
 (256 :
 Int),
 bits
 BinOp.or
 IntKind.i64
 (bits
 BinOp.or
 IntKind.i64
 (1610612736 :
 Int)
 (bits
 BinOp.and
 IntKind.i64
 x.fst.fst
 (255 :
 Int) *
 (1048576 :
 Int)))
 (bits
 BinOp.and
 IntKind.i64
 x.fst.snd.fst
 (1048575 :
 Int)) %
 (256 :
 Int),
 (↑((min
 (↑x.snd.length :
 Int)
 (2008 :
 Int)).toNat -
 (0 :
 Nat)) :
 Int) /
 (256 :
 Int) %
 (256 :
 Int),
 (↑((min
 (↑x.snd.length :
 Int)
 (2008 :
 Int)).toNat -
 (0 :
 Nat)) :
 Int) %
 (256 :
 Int),
 x.fst.snd.snd.snd.fst %
 (256 :
 Int),
 x.fst.snd.snd.snd.snd.fst %
 (256 :
 Int)].length +
 (whole6
 x_1).length +
 (whole6
 x_2).length) *
 (1 :
 Nat) ≤
 (140737488355328 :
 Nat) ∧
 ([] : List Int).length +
 [bits
 BinOp.or
 IntKind.i64
 (bits
 BinOp.or
 IntKind.i64
 (1610612736 :
 Int)
 (bits
 BinOp.and
 IntKind.i64
 x.fst.fst
 (255 :
 Int) *
 (1048576 :
 Int)))
 (bits
 BinOp.and
 IntKind.i64
 x.fst.snd.fst
 (1048575 :
 Int)) /
 (16777216 :
 Int) %
 (256 :
 Int),
 bits
 BinOp.or
 IntKind.i64
 (bits
 BinOp.or
 IntKind.i64
 (1610612736 :
 Int)
 (bits
 BinOp.and
 IntKind.i64
 x.fst.fst
 (255 :
 Int) *
 (1048576 :
 Int)))
 (bits
 BinOp.and
 IntKind.i64
 x.fst.snd.fst
 (1048575 :
 Int)) /
 (65536 :
 Int) %
 (256 :
 Int),
 bits
 BinOp.or
 IntKind.i64
 (bits
 BinOp.or
 IntKind.i64
 (1610612736 :
 Int)
 (bits
 BinOp.and
 IntKind.i64
 x.fst.fst
 (255 :
 Int) *
 (1048576 :
 Int)))
 (bits
 BinOp.and
 IntKind.i64
 x.fst.snd.fst
 (1048575 :
 Int)) /
 (256 :
 Int) %
 (256 :
 Int),
 bits
 BinOp.or
 IntKind.i64
 (bits
 BinOp.or
 IntKind.i64
 (1610612736 :
 Int)
 (bits
 BinOp.and
 IntKind.i64
 x.fst.fst
 (255 :
 Int) *
 (1048576 :
 Int)))
 (bits
 BinOp.and
 IntKind.i64
 x.fst.snd.fst
 (1048575 :
 Int)) %
 (256 :
 Int),
 (↑((min
 (↑x.snd.length :
 Int)
 (2008 :
 Int)).toNat -
 (0 :
 Nat)) :
 Int) /
 (256 :
 Int) %
 (256 :
 Int),
 (↑((min
 (↑x.snd.length :
 Int)
 (2008 :
 Int)).toNat -
 (0 :
 Nat)) :
 Int) %
 (256 :
 Int),
 x.fst.snd.snd.snd.fst %
 (256 :
 Int),
 x.fst.snd.snd.snd.snd.fst %
 (256 :
 Int)].length +
 (whole6
 x_1).length +
 (whole6
 x_2).length ≤
 (140737488355328 :
 Nat)) ∧
 ((-9223372036854775808 :
 Int) ≤
 (3 :
 Int) ∧
 (3 :
 Int) ≤
 (9223372036854775807 :
 Int)) ∧
 ((0 :
 Int) ≤
 (3 :
 Int) ∧
 (3 :
 Int) <
 (4 :
 Int)) ∧
 ((([] : List Int).length +
 [bits
 BinOp.or
 IntKind.i64
 (bits
 BinOp.or
 IntKind.i64
 (1610612736 :
 Int)
 (bits
 BinOp.and
 IntKind.i64
 x.fst.fst
 (255 :
 Int) *
 (1048576 :
 Int)))
 (bits
 BinOp.and
 IntKind.i64
 x.fst.snd.fst
 (1048575 :
 Int)) /
 (16777216 :
 Int) %
 (256 :
 Int),
 bits
 BinOp.or
 IntKind.i64
 (bits
 BinOp.or
 IntKind.i64
 (1610612736 :
 Int)
 (bits
 BinOp.and
 IntKind.i64
 x.fst.fst
 (255 :
 Int) *
 (1048576 :
 Int)))
 (bits
 BinOp.and
 IntKind.i64
 x.fst.snd.fst
 (1048575 :
 Int)) /
 (65536 :
 Int) %
 (256 :
 Int),
 bits
 BinOp.or
 IntKind.i64
 (bits
 BinOp.or
 IntKind.i64
 (1610612736 :
 Int)
 (bits
 BinOp.and
 IntKind.i64
 x.fst.fst
 (255 :
 Int) *
 (1048576 :
 Int)))
 (bits
 BinOp.and
 IntKind.i64
 x.fst.snd.fst
 (1048575 :
 Int)) /
 (256 :
 Int) %
 (256 :
 Int),
 bits
 BinOp.or
 IntKind.i64
 (bits
 BinOp.or
 IntKind.i64
 (1610612736 :
 Int)
 (bits
 BinOp.and
 IntKind.i64
 x.fst.fst
 (255 :
 Int) *
 (1048576 :
 Int)))
 (bits
 BinOp.and
 IntKind.i64
 x.fst.snd.fst
 (1048575 :
 Int)) %
 (256 :
 Int),
 (↑((min
 (↑x.snd.length :
 Int)
 (2008 :
 Int)).toNat -
 (0 :
 Nat)) :
 Int) /
 (256 :
 Int) %
 (256 :
 Int),
 (↑((min
 (↑x.snd.length :
 Int)
 (2008 :
 Int)).toNat -
 (0 :
 Nat)) :
 Int) %
 (256 :
 Int),
 x.fst.snd.snd.snd.fst %
 (256 :
 Int),
 x.fst.snd.snd.snd.snd.fst %
 (256 :
 Int)].length +
 (whole6
 x_1).length +
 (whole6
 x_2).length +
 (List.drop
 (0 :
 Nat)
 (List.take
 (min
 (↑x.snd.length :
 Int)
 (2008 :
 Int)).toNat
 x.snd)).length) *
 (1 :
 Nat) ≤
 (140737488355328 :
 Nat) ∧
 ([] : List Int).length +
 [bits
 BinOp.or
 IntKind.i64
 (bits
 BinOp.or
 IntKind.i64
 (1610612736 :
 Int)
 (bits
 BinOp.and
 IntKind.i64
 x.fst.fst
 (255 :
 Int) *
 (1048576 :
 Int)))
 (bits
 BinOp.and
 IntKind.i64
 x.fst.snd.fst
 (1048575 :
 Int)) /
 (16777216 :
 Int) %
 (256 :
 Int),
 bits
 BinOp.or
 IntKind.i64
 (bits
 BinOp.or
 IntKind.i64
 (1610612736 :
 Int)
 (bits
 BinOp.and
 IntKind.i64
 x.fst.fst
 (255 :
 Int) *
 (1048576 :
 Int)))
 (bits
 BinOp.and
 IntKind.i64
 x.fst.snd.fst
 (1048575 :
 Int)) /
 (65536 :
 Int) %
 (256 :
 Int),
 bits
 BinOp.or
 IntKind.i64
 (bits
 BinOp.or
 IntKind.i64
 (1610612736 :
 Int)
 (bits
 BinOp.and
 IntKind.i64
 x.fst.fst
 (255 :
 Int) *
 (1048576 :
 Int)))
 (bits
 BinOp.and
 IntKind.i64
 x.fst.snd.fst
 (1048575 :
 Int)) /
 (256 :
 Int) %
 (256 :
 Int),
 bits
 BinOp.or
 IntKind.i64
 (bits
 BinOp.or
 IntKind.i64
 (1610612736 :
 Int)
 (bits
 BinOp.and
 IntKind.i64
 x.fst.fst
 (255 :
 Int) *
 (1048576 :
 Int)))
 (bits
 BinOp.and
 IntKind.i64
 x.fst.snd.fst
 (1048575 :
 Int)) %
 (256 :
 Int),
 (↑((min
 (↑x.snd.length :
 Int)
 (2008 :
 Int)).toNat -
 (0 :
 Nat)) :
 Int) /
 (256 :
 Int) %
 (256 :
 Int),
 (↑((min
 (↑x.snd.length :
 Int)
 (2008 :
 Int)).toNat -
 (0 :
 Nat)) :
 Int) %
 (256 :
 Int),
 x.fst.snd.snd.snd.fst %
 (256 :
 Int),
 x.fst.snd.snd.snd.snd.fst %
 (256 :
 Int)].length +
 (whole6
 x_1).length +
 (whole6
 x_2).length +
 (List.drop
 (0 :
 Nat)
 (List.take
 (min
 (↑x.snd.length :
 Int)
 (2008 :
 Int)).toNat
 x.snd)).length ≤
 (140737488355328 :
 Nat)) ∧
 ((-9223372036854775808 :
 Int) ≤
 (4 :
 Int) ∧
 (4 :
 Int) ≤
 (9223372036854775807 :
 Int)) ∧
 ∃ (y
 :
 Unit),
 True ∧
 ([] : List Int).length +
 [bits
 BinOp.or
 IntKind.i64
 (bits
 BinOp.or
 IntKind.i64
 (1610612736 :
 Int)
 (bits
 BinOp.and
 IntKind.i64
 x.fst.fst
 (255 :
 Int) *
 (1048576 :
 Int)))
 (bits
 BinOp.and
 IntKind.i64
 x.fst.snd.fst
 (1048575 :
 Int)) /
 (16777216 :
 Int) %
 (256 :
 Int),
 bits
 BinOp.or
 IntKind.i64
 (bits
 BinOp.or
 IntKind.i64
 (1610612736 :
 Int)
 (bits
 BinOp.and
 IntKind.i64
 x.fst.fst
 (255 :
 Int) *
 (1048576 :
 Int)))
 (bits
 BinOp.and
 IntKind.i64
 x.fst.snd.fst
 (1048575 :
 Int)) /
 (65536 :
 Int) %
 (256 :
 Int),
 bits
 BinOp.or
 IntKind.i64
 (bits
 BinOp.or
 IntKind.i64
 (1610612736 :
 Int)
 (bits
 BinOp.and
 IntKind.i64
 x.fst.fst
 (255 :
 Int) *
 (1048576 :
 Int)))
 (bits
 BinOp.and
 IntKind.i64
 x.fst.snd.fst
 (1048575 :
 Int)) /
 (256 :
 Int) %
 (256 :
 Int),
 bits
 BinOp.or
 IntKind.i64
 (bits
 BinOp.or
 IntKind.i64
 (1610612736 :
 Int)
 (bits
 BinOp.and
 IntKind.i64
 x.fst.fst
 (255 :
 Int) *
 (1048576 :
 Int)))
 (bits
 BinOp.and
 IntKind.i64
 x.fst.snd.fst
 (1048575 :
 Int)) %
 (256 :
 Int),
 (↑((min
 (↑x.snd.length :
 Int)
 (2008 :
 Int)).toNat -
 (0 :
 Nat)) :
 Int) /
 (256 :
 Int) %
 (256 :
 Int),
 (↑((min
 (↑x.snd.length :
 Int)
 (2008 :
 Int)).toNat -
 (0 :
 Nat)) :
 Int) %
 (256 :
 Int),
 x.fst.snd.snd.snd.fst %
 (256 :
 Int),
 x.fst.snd.snd.snd.snd.fst %
 (256 :
 Int)].length +
 (whole6
 x_1).length +
 (whole6
 x_2).length +
 (List.drop
 (0 :
 Nat)
 (List.take
 (min
 (↑x.snd.length :
 Int)
 (2008 :
 Int)).toNat
 x.snd)).length =
 (build6
 x.fst
 x.snd).length ∧
 [] ++
 [bits
 BinOp.or
 IntKind.i64
 (bits
 BinOp.or
 IntKind.i64
 (1610612736 :
 Int)
 (bits
 BinOp.and
 IntKind.i64
 x.fst.fst
 (255 :
 Int) *
 (1048576 :
 Int)))
 (bits
 BinOp.and
 IntKind.i64
 x.fst.snd.fst
 (1048575 :
 Int)) /
 (16777216 :
 Int) %
 (256 :
 Int),
 bits
 BinOp.or
 IntKind.i64
 (bits
 BinOp.or
 IntKind.i64
 (1610612736 :
 Int)
 (bits
 BinOp.and
 IntKind.i64
 x.fst.fst
 (255 :
 Int) *
 (1048576 :
 Int)))
 (bits
 BinOp.and
 IntKind.i64
 x.fst.snd.fst
 (1048575 :
 Int)) /
 (65536 :
 Int) %
 (256 :
 Int),
 bits
 BinOp.or
 IntKind.i64
 (bits
 BinOp.or
 IntKind.i64
 (1610612736 :
 Int)
 (bits
 BinOp.and
 IntKind.i64
 x.fst.fst
 (255 :
 Int) *
 (1048576 :
 Int)))
 (bits
 BinOp.and
 IntKind.i64
 x.fst.snd.fst
 (1048575 :
 Int)) /
 (256 :
 Int) %
 (256 :
 Int),
 bits
 BinOp.or
 IntKind.i64
 (bits
 BinOp.or
 IntKind.i64
 (1610612736 :
 Int)
 (bits
 BinOp.and
 IntKind.i64
 x.fst.fst
 (255 :
 Int) *
 (1048576 :
 Int)))
 (bits
 BinOp.and
 IntKind.i64
 x.fst.snd.fst
 (1048575 :
 Int)) %
 (256 :
 Int),
 (↑((min
 (↑x.snd.length :
 Int)
 (2008 :
 Int)).toNat -
 (0 :
 Nat)) :
 Int) /
 (256 :
 Int) %
 (256 :
 Int),
 (↑((min
 (↑x.snd.length :
 Int)
 (2008 :
 Int)).toNat -
 (0 :
 Nat)) :
 Int) %
 (256 :
 Int),
 x.fst.snd.snd.snd.fst %
 (256 :
 Int),
 x.fst.snd.snd.snd.snd.fst %
 (256 :
 Int)] ++
 whole6
 x_1 ++
 whole6
 x_2 ++
 List.drop
 (0 :
 Nat)
 (List.take
 (min
 (↑x.snd.length :
 Int)
 (2008 :
 Int)).toNat
 x.snd) =
 build6
 x.fst
 x.snd ∧
 True
theorem o_build6 : owes Try.prog (tab J2) LqJ 2 85 Try.f85 Build6S = T_build6 := by kernel_rfl
end Sp
