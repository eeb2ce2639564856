/- Printed by sx.py, a program of this work: what the walks of some functions owe. -/
import Derived.Test.YthnhbnakpmkppaaSpR
import Derived.ProofKit
set_option linter.all false
set_option maxRecDepth 100000
namespace Sp
open Go Go.Proofs Sx
def T_rwidth : Prop :=
 ∀ (x : Bool),
 True →
 ifB x (∃ (y : Unit), True ∧ (128 : Int) = (↑(wd x) : Int) ∧ True)
 (∃ (y : Unit), True ∧ (32 : Int) = (↑(wd x) : Int) ∧ True)
theorem o_rwidth : owes Try.prog (tab Rw) LqR 0 54 Try.f54 WidthZ = T_rwidth := by kernel_rfl
def T_raw : Prop :=
 ∀ (x : Ad × Int),
 (((0 : Int) ≤ x.fst.fst ∧ x.fst.fst < (18446744073709551616 : Int)) ∧
 (0 : Int) ≤ x.fst.snd.fst ∧ x.fst.snd.fst < (18446744073709551616 : Int)) ∧
 (0 : Int) ≤ x.snd ∧ x.snd < (128 : Int) →
 ifB (decide (x.snd < (64 : Int)))
 (((-9223372036854775808 : Int) ≤ (63 : Int) - x.snd ∧ (63 : Int) - x.snd ≤ (9223372036854775807 : Int)) ∧
 (0 : Int) ≤ ((63 : Int) - x.snd) % (18446744073709551616 : Int) ∧
 ((-9223372036854775808 : Int) ≤
 bits BinOp.and IntKind.u64
 (x.fst.fst / (2 : Int) ^ min (((63 : Int) - x.snd) % (18446744073709551616 : Int)).toNat (64 : Nat))
 (1 : Int) ∧
 bits BinOp.and IntKind.u64
 (x.fst.fst / (2 : Int) ^ min (((63 : Int) - x.snd) % (18446744073709551616 : Int)).toNat (64 : Nat))
 (1 : Int) ≤
 (9223372036854775807 : Int)) ∧
 ∃ (y : Unit),
 True ∧
 bits BinOp.and IntKind.u64
 (x.fst.fst /
 (2 : Int) ^ min (((63 : Int) - x.snd) % (18446744073709551616 : Int)).toNat (64 : Nat))
 (1 : Int) =
 b2i ((wordsA x.fst).getD x.snd.toNat false) ∧
 True)
 (((-9223372036854775808 : Int) ≤ (127 : Int) - x.snd ∧ (127 : Int) - x.snd ≤ (9223372036854775807 : Int)) ∧
 (0 : Int) ≤ ((127 : Int) - x.snd) % (18446744073709551616 : Int) ∧
 ((-9223372036854775808 : Int) ≤
 bits BinOp.and IntKind.u64
 (x.fst.snd.fst /
 (2 : Int) ^ min (((127 : Int) - x.snd) % (18446744073709551616 : Int)).toNat (64 : Nat))
 (1 : Int) ∧
 bits BinOp.and IntKind.u64
 (x.fst.snd.fst /
 (2 : Int) ^ min (((127 : Int) - x.snd) % (18446744073709551616 : Int)).toNat (64 : Nat))
 (1 : Int) ≤
 (9223372036854775807 : Int)) ∧
 ∃ (y : Unit),
 True ∧
 bits BinOp.and IntKind.u64
 (x.fst.snd.fst /
 (2 : Int) ^ min (((127 : Int) - x.snd) % (18446744073709551616 : Int)).toNat (64 : Nat))
 (1 : Int) =
 b2i ((wordsA x.fst).getD x.snd.toNat false) ∧
 True)
theorem o_raw : owes Try.prog (tab R0) LqR 0 102 Try.f102 RawS = T_raw := by kernel_rfl
def T_rsanea : Prop :=
 ∀ (x : Int × Int × Bool),
 ((0 : Int) ≤ x.fst ∧ x.fst < (18446744073709551616 : Int)) ∧
 (0 : Int) ≤ x.snd.fst ∧ x.snd.fst < (18446744073709551616 : Int) →
 ∃ (I : Int → Prop),
 ∃ (μ : Int → Nat),
 (∃ (x : Int), I x ∧ (32 : Int) = x ∧ True) ∧
 ∀ (x_1 : Int),
 I x_1 →
 ifB (decide (x_1 < (128 : Int)))
 (ifB (!x.snd.snd)
 (∃ (x_2 : Ad × Int),
 x.fst = x_2.fst.fst ∧
 x.snd.fst = x_2.fst.snd.fst ∧
 x.snd.snd = x_2.fst.snd.snd ∧
 x_1 = x_2.snd ∧
 ((((0 : Int) ≤ x_2.fst.fst ∧ x_2.fst.fst < (18446744073709551616 : Int)) ∧
 (0 : Int) ≤ x_2.fst.snd.fst ∧ x_2.fst.snd.fst < (18446744073709551616 : Int)) ∧
 (0 : Int) ≤ x_2.snd ∧ x_2.snd < (128 : Int)) ∧
 ∀ (y : Unit),
 True →
 ifB (!decide (b2i ((wordsA x_2.fst).getD x_2.snd.toNat false) = (0 : Int)))
 (∃ (y : Unit), True ∧ false = saneA x ∧ True)
 (((-9223372036854775808 : Int) ≤ x_1 + (1 : Int) ∧
 x_1 + (1 : Int) ≤ (9223372036854775807 : Int)) ∧
 ∃ (y : Int), I y ∧ μ y < μ x_1 ∧ x_1 + (1 : Int) = y ∧ True))
 (∃ (y : Unit), True ∧ true = saneA x ∧ True))
 (∃ (y : Unit), True ∧ true = saneA x ∧ True)
theorem o_rsanea : owes Try.prog (tab R1) LqR 0 53 Try.f53 SaneAS = T_rsanea := by kernel_rfl
def T_rbit : Prop :=
 ∀ (x : Ad × Int),
 ((0 : Int) ≤ x.fst.fst ∧ x.fst.fst < (18446744073709551616 : Int)) ∧
 (0 : Int) ≤ x.fst.snd.fst ∧ x.fst.snd.fst < (18446744073709551616 : Int) →
 ifB (decide (x.snd < (0 : Int))) (∃ (y : Unit), True ∧ (0 : Int) = bitZ x.fst x.snd ∧ True)
 (∃ (x_1 : Bool),
 x.fst.snd.snd = x_1 ∧
 True ∧
 ∀ (y : Unit),
 True →
 ifB (decide ((↑(wd x_1) : Int) ≤ x.snd)) (∃ (y : Unit), True ∧ (0 : Int) = bitZ x.fst x.snd ∧ True)
 (∃ (x_2 : Ad × Int),
 x.fst.fst = x_2.fst.fst ∧
 x.fst.snd.fst = x_2.fst.snd.fst ∧
 x.fst.snd.snd = x_2.fst.snd.snd ∧
 x.snd = x_2.snd ∧
 ((((0 : Int) ≤ x_2.fst.fst ∧ x_2.fst.fst < (18446744073709551616 : Int)) ∧
 (0 : Int) ≤ x_2.fst.snd.fst ∧ x_2.fst.snd.fst < (18446744073709551616 : Int)) ∧
 (0 : Int) ≤ x_2.snd ∧ x_2.snd < (128 : Int)) ∧
 ∀ (y : Unit),
 True →
 ∃ (y : Unit),
 True ∧ b2i ((wordsA x_2.fst).getD x_2.snd.toNat false) = bitZ x.fst x.snd ∧ True))
theorem o_rbit : owes Try.prog (tab R1) LqR 0 55 Try.f55 BitS = T_rbit := by kernel_rfl
def T_rdigits : Prop :=
 ∀ (x : Int × Int × Bool),
 ((0 : Int) ≤ x.fst ∧ x.fst < (18446744073709551616 : Int)) ∧
 (0 : Int) ≤ x.snd.fst ∧ x.snd.fst < (18446744073709551616 : Int) →
 ∃ (I : Int × List Int → Prop),
 ∃ (μ : Int × List Int → Nat),
 (∃ (x : Int × List Int), I x ∧ (0 : Int) = x.fst ∧ (0 : Nat) = x.snd.length ∧ [] = x.snd ∧ True) ∧
 ∀ (x_1 : Int × List Int),
 I x_1 →
 ∃ (x_2 : Bool),
 x.snd.snd = x_2 ∧
 True ∧
 ∀ (y : Unit),
 True →
 ifB (decide (x_1.fst < (↑(wd x_2) : Int)))
 (∃ (x_3 : Ad × Int),
 x.fst = x_3.fst.fst ∧
 x.snd.fst = x_3.fst.snd.fst ∧
 x.snd.snd = x_3.fst.snd.snd ∧
 x_1.fst = x_3.snd ∧
 ((((0 : Int) ≤ x_3.fst.fst ∧ x_3.fst.fst < (18446744073709551616 : Int)) ∧
 (0 : Int) ≤ x_3.fst.snd.fst ∧
 x_3.fst.snd.fst < (18446744073709551616 : Int)) ∧
 (0 : Int) ≤ x_3.snd ∧ x_3.snd < (128 : Int)) ∧
 ∀ (y : Unit),
 True →
 ((x_1.snd.length + [b2i ((wordsA x_3.fst).getD x_3.snd.toNat false)].length) *
 (8 : Nat) ≤
 (140737488355328 : Nat) ∧
 x_1.snd.length +
 [b2i ((wordsA x_3.fst).getD x_3.snd.toNat false)].length ≤
 (140737488355328 : Nat)) ∧
 ((-9223372036854775808 : Int) ≤ x_1.fst + (1 : Int) ∧
 x_1.fst + (1 : Int) ≤ (9223372036854775807 : Int)) ∧
 ∃ (y : Int × List Int),
 I y ∧
 μ y < μ x_1 ∧
 x_1.fst + (1 : Int) = y.fst ∧
 x_1.snd.length +
 [b2i ((wordsA x_3.fst).getD x_3.snd.toNat false)].length =
 y.snd.length ∧
 x_1.snd ++ [b2i ((wordsA x_3.fst).getD x_3.snd.toNat false)] =
 y.snd ∧
 True)
 (∃ (y : Unit),
 True ∧
 x_1.snd.length = (List.map b2i (bitsA x)).length ∧
 x_1.snd = List.map b2i (bitsA x) ∧ True)
theorem o_rdigits : owes Try.prog (tab R1) LqR 0 142 Try.f142 DigitsS = T_rdigits := by kernel_rfl
def T_rof : Prop :=
 ∀ (x : List Bool),
 x.length = (32 : Nat) ∨ x.length = (128 : Nat) →
 ∃ (I : Int × Int × Int × Bool → Prop),
 ∃ (μ : Int × Int × Int × Bool → Nat),
 (∃ (x_1 : Int × Int × Int × Bool),
 I x_1 ∧
 (0 : Int) = x_1.fst ∧
 (0 : Int) = x_1.snd.fst ∧
 (0 : Int) = x_1.snd.snd.fst ∧ decide ((↑x.length : Int) = (128 : Int)) = x_1.snd.snd.snd ∧ True) ∧
 ∀ (x_1 : Int × Int × Int × Bool),
 I x_1 →
 ifB (decide (x_1.fst < (↑x.length : Int)))
 (ifB (decide (x_1.fst < (64 : Int)))
 (((0 : Int) ≤ x_1.fst ∧ x_1.fst < (↑x.length : Int)) ∧
 ((-9223372036854775808 : Int) ≤ (63 : Int) - x_1.fst ∧
 (63 : Int) - x_1.fst ≤ (9223372036854775807 : Int)) ∧
 (0 : Int) ≤ ((63 : Int) - x_1.fst) % (18446744073709551616 : Int) ∧
 ((-9223372036854775808 : Int) ≤ x_1.fst + (1 : Int) ∧
 x_1.fst + (1 : Int) ≤ (9223372036854775807 : Int)) ∧
 ∃ (y : Int × Int × Int × Bool),
 I y ∧
 μ y < μ x_1 ∧
 x_1.fst + (1 : Int) = y.fst ∧
 bits BinOp.or IntKind.u64 x_1.snd.fst
 ((List.map b2i x).getD x_1.fst.toNat (0 : Int) % (18446744073709551616 : Int) *
 (2 : Int) ^
 min (((63 : Int) - x_1.fst) % (18446744073709551616 : Int)).toNat
 (64 : Nat) %
 (18446744073709551616 : Int)) =
 y.snd.fst ∧
 x_1.snd.snd.fst = y.snd.snd.fst ∧ x_1.snd.snd.snd = y.snd.snd.snd ∧ True)
 (((0 : Int) ≤ x_1.fst ∧ x_1.fst < (↑x.length : Int)) ∧
 ((-9223372036854775808 : Int) ≤ (127 : Int) - x_1.fst ∧
 (127 : Int) - x_1.fst ≤ (9223372036854775807 : Int)) ∧
 (0 : Int) ≤ ((127 : Int) - x_1.fst) % (18446744073709551616 : Int) ∧
 ((-9223372036854775808 : Int) ≤ x_1.fst + (1 : Int) ∧
 x_1.fst + (1 : Int) ≤ (9223372036854775807 : Int)) ∧
 ∃ (y : Int × Int × Int × Bool),
 I y ∧
 μ y < μ x_1 ∧
 x_1.fst + (1 : Int) = y.fst ∧
 x_1.snd.fst = y.snd.fst ∧
 bits BinOp.or IntKind.u64 x_1.snd.snd.fst
 ((List.map b2i x).getD x_1.fst.toNat (0 : Int) %
 (18446744073709551616 : Int) *
 (2 : Int) ^
 min (((127 : Int) - x_1.fst) % (18446744073709551616 : Int)).toNat
 (64 : Nat) %
 (18446744073709551616 : Int)) =
 y.snd.snd.fst ∧
 x_1.snd.snd.snd = y.snd.snd.snd ∧ True))
 (∃ (y : Unit),
 True ∧
 x_1.snd.fst = (ofB (decide (x.length = (128 : Nat))) x).fst ∧
 x_1.snd.snd.fst = (ofB (decide (x.length = (128 : Nat))) x).snd.fst ∧
 x_1.snd.snd.snd = (ofB (decide (x.length = (128 : Nat))) x).snd.snd ∧ True)
theorem o_rof : owes Try.prog (tab R1) LqR 0 146 Try.f146 OfLS = T_rof := by kernel_rfl
def T_rsane : Prop :=
 ∀ (x : Int × Int × Bool × Int),
 ((0 : Int) ≤ (pA x).fst ∧ (pA x).fst < (18446744073709551616 : Int)) ∧
 (0 : Int) ≤ (pA x).snd.fst ∧ (pA x).snd.fst < (18446744073709551616 : Int) →
 ∃ (x_1 : Int × Int × Bool),
 x.fst = x_1.fst ∧
 x.snd.fst = x_1.snd.fst ∧
 x.snd.snd.fst = x_1.snd.snd ∧
 (((0 : Int) ≤ x_1.fst ∧ x_1.fst < (18446744073709551616 : Int)) ∧
 (0 : Int) ≤ x_1.snd.fst ∧ x_1.snd.fst < (18446744073709551616 : Int)) ∧
 ∀ (y : Unit),
 True →
 ifB (!saneA x_1) (∃ (y : Unit), True ∧ false = saneP x ∧ True)
 (ifB (decide (x.snd.snd.snd < (0 : Int))) (∃ (y : Unit), True ∧ false = saneP x ∧ True)
 (∃ (x_2 : Bool),
 x.snd.snd.fst = x_2 ∧
 True ∧
 ∀ (y : Unit),
 True →
 ifB (decide ((↑(wd x_2) : Int) < x.snd.snd.snd))
 (∃ (y : Unit), True ∧ false = saneP x ∧ True)
 (∃ (I : Int → Prop),
 ∃ (μ : Int → Nat),
 (∃ (x_3 : Int), I x_3 ∧ x.snd.snd.snd = x_3 ∧ True) ∧
 ∀ (x_3 : Int),
 I x_3 →
 ∃ (x_4 : Bool),
 x.snd.snd.fst = x_4 ∧
 True ∧
 ∀ (y : Unit),
 True →
 ifB (decide (x_3 < (↑(wd x_4) : Int)))
 (∃ (x_5 : Ad × Int),
 x.fst = x_5.fst.fst ∧
 x.snd.fst = x_5.fst.snd.fst ∧
 x.snd.snd.fst = x_5.fst.snd.snd ∧
 x_3 = x_5.snd ∧
 (((0 : Int) ≤ x_5.fst.fst ∧
 x_5.fst.fst < (18446744073709551616 : Int)) ∧
 (0 : Int) ≤ x_5.fst.snd.fst ∧
 x_5.fst.snd.fst <
 (18446744073709551616 : Int)) ∧
 ∀ (y : Unit),
 True →
 ifB (!decide (bitZ x_5.fst x_5.snd = (0 : Int)))
 (∃ (y : Unit), True ∧ false = saneP x ∧ True)
 (((-9223372036854775808 : Int) ≤
 x_3 + (1 : Int) ∧
 x_3 + (1 : Int) ≤
 (9223372036854775807 : Int)) ∧
 ∃ (y : Int),
 I y ∧
 μ y < μ x_3 ∧
 x_3 + (1 : Int) = y ∧ True))
 (∃ (y : Unit), True ∧ true = saneP x ∧ True))))
theorem o_rsane : owes Try.prog (tab R2) LqR 0 25 Try.f25 SaneZ = T_rsane := by kernel_rfl
def T_rbytes : Prop :=
 ∀ (x : Int × Int × Bool),
 ((0 : Int) ≤ x.fst ∧ x.fst < (18446744073709551616 : Int)) ∧
 (0 : Int) ≤ x.snd.fst ∧ x.snd.fst < (18446744073709551616 : Int) →
 ∃ (x_1 : Int × Int × Bool),
 x.fst = x_1.fst ∧
 x.snd.fst = x_1.snd.fst ∧
 x.snd.snd = x_1.snd.snd ∧
 (((0 : Int) ≤ x_1.fst ∧ x_1.fst < (18446744073709551616 : Int)) ∧
 (0 : Int) ≤ x_1.snd.fst ∧ x_1.snd.fst < (18446744073709551616 : Int)) ∧
 ∀ (y : Unit),
 True →
 ((0 : Int) ≤ (↑(List.map b2i (bitsA x_1)).length : Int) ∧ (0 : Int) < (8 : Int)) ∧
 ((0 : Int) ≤ (↑(List.map b2i (bitsA x_1)).length : Int) / (8 : Int) ∧
 (↑(List.map b2i (bitsA x_1)).length : Int) / (8 : Int) ≤
 (↑(List.map b2i (bitsA x_1)).length : Int) / (8 : Int) ∧
 (↑(List.map b2i (bitsA x_1)).length : Int) / (8 : Int) ≤ (140737488355328 : Int) ∧
 (↑(List.map b2i (bitsA x_1)).length : Int) / (8 : Int) * (1 : Int) ≤
 (140737488355328 : Int)) ∧
 ∃ (I : Int × List Int → Prop),
 ∃ (μ : Int × List Int → Nat),
 (∃ (x : Int × List Int),
 I x ∧
 (0 : Int) = x.fst ∧
 List.replicate ((↑(List.map b2i (bitsA x_1)).length : Int) / (8 : Int)).toNat
 (0 : Int) =
 x.snd ∧
 True) ∧
 ∀ (x_2 : Int × List Int),
 I x_2 →
 ifB (decide (x_2.fst < (↑(List.map b2i (bitsA x_1)).length : Int)))
 (((0 : Int) ≤ x_2.fst ∧ (0 : Int) < (8 : Int)) ∧
 ((0 : Int) ≤ x_2.fst ∧ (0 : Int) < (8 : Int)) ∧
 ((0 : Int) ≤ x_2.fst / (8 : Int) ∧
 x_2.fst / (8 : Int) <
 (↑((↑(List.map b2i (bitsA x_1)).length : Int) / (8 : Int)).toNat : Int)) ∧
 ((0 : Int) ≤ x_2.fst ∧ x_2.fst < (↑(List.map b2i (bitsA x_1)).length : Int)) ∧
 ((0 : Int) ≤ x_2.fst / (8 : Int) ∧
 x_2.fst / (8 : Int) <
 (↑((↑(List.map b2i (bitsA x_1)).length : Int) / (8 : Int)).toNat :
 Int)) ∧
 ((-9223372036854775808 : Int) ≤ x_2.fst + (1 : Int) ∧
 x_2.fst + (1 : Int) ≤ (9223372036854775807 : Int)) ∧
 ∃ (y : Int × List Int),
 I y ∧
 μ y < μ x_2 ∧
 x_2.fst + (1 : Int) = y.fst ∧
 x_2.snd.set (x_2.fst / (8 : Int)).toNat
 ((x_2.snd.getD (x_2.fst / (8 : Int)).toNat (0 : Int) *
 (2 : Int) %
 (256 : Int) +
 (List.map b2i (bitsA x_1)).getD x_2.fst.toNat
 (0 : Int) %
 (256 : Int)) %
 (256 : Int)) =
 y.snd ∧
 True)
 (∃ (y : Unit),
 True ∧
 ((↑(List.map b2i (bitsA x_1)).length : Int) / (8 : Int)).toNat =
 (bytesA x).length ∧
 x_2.snd = bytesA x ∧ True)
theorem o_rbytes : owes Try.prog (tab R2) LqR 0 101 Try.f101 BytesS = T_rbytes := by kernel_rfl
def T_same : Prop :=
 ∀ (x : List Rt × List Rt),
 x.fst.length ≤ (1000000000 : Nat) ∧ x.snd.length ≤ (1000000000 : Nat) →
 ifB (!decide ((↑x.fst.length : Int) = (↑x.snd.length : Int)))
 (∃ (y : Unit), True ∧ false = decide (x.fst = x.snd) ∧ True)
 (∃ (I : Int → Prop),
 ∃ (μ : Int → Nat),
 (∃ (x : Int), I x ∧ (0 : Int) = x ∧ True) ∧
 ∀ (x_1 : Int),
 I x_1 →
 ifB (decide (x_1 < (↑x.fst.length : Int)))
 (((0 : Int) ≤ x_1 ∧ x_1 < (↑x.fst.length : Int)) ∧
 ((0 : Int) ≤ x_1 ∧ x_1 < (↑x.snd.length : Int)) ∧
 ifB
 (!(decide
 ((x.fst.getD x_1.toNat ((0 : Int), (0 : Int), false, (0 : Int), (0 : Int))).fst =
 (x.snd.getD x_1.toNat ((0 : Int), (0 : Int), false, (0 : Int), (0 : Int))).fst) &&
 (decide
 ((x.fst.getD x_1.toNat ((0 : Int), (0 : Int), false, (0 : Int), (0 : Int))).snd.fst =
 (x.snd.getD x_1.toNat ((0 : Int), (0 : Int), false, (0 : Int), (0 : Int))).snd.fst) &&
 (decide
 ((x.fst.getD x_1.toNat
 ((0 : Int), (0 : Int), false, (0 : Int), (0 : Int))).snd.snd.fst =
 (x.snd.getD x_1.toNat
 ((0 : Int), (0 : Int), false, (0 : Int), (0 : Int))).snd.snd.fst) &&
 (decide
 ((x.fst.getD x_1.toNat
 ((0 : Int), (0 : Int), false, (0 : Int), (0 : Int))).snd.snd.snd.fst =
 (x.snd.getD x_1.toNat
 ((0 : Int), (0 : Int), false, (0 : Int), (0 : Int))).snd.snd.snd.fst) &&
 decide
 ((x.fst.getD x_1.toNat
 ((0 : Int), (0 : Int), false, (0 : Int), (0 : Int))).snd.snd.snd.snd =
 (x.snd.getD x_1.toNat
 ((0 : Int), (0 : Int), false, (0 : Int),
 (0 : Int))).snd.snd.snd.snd))))))
 (∃ (y : Unit), True ∧ false = decide (x.fst = x.snd) ∧ True)
 (((-9223372036854775808 : Int) ≤ x_1 + (1 : Int) ∧
 x_1 + (1 : Int) ≤ (9223372036854775807 : Int)) ∧
 ∃ (y : Int), I y ∧ μ y < μ x_1 ∧ x_1 + (1 : Int) = y ∧ True))
 (∃ (y : Unit), True ∧ true = decide (x.fst = x.snd) ∧ True))
theorem o_same : owes Try.prog (tab R2) LqR 0 27 Try.f27 SameS = T_same := by kernel_rfl
def T_rput : Prop :=
 ∀ (x : List Int × Pf),
 x.fst.length ≤ most ∧
 ((0 : Int) ≤ (pA x.snd).fst ∧ (pA x.snd).fst < (18446744073709551616 : Int)) ∧
 (0 : Int) ≤ (pA x.snd).snd.fst ∧ (pA x.snd).snd.fst < (18446744073709551616 : Int) →
 (((0 : Nat) + x.fst.length) * (1 : Nat) ≤ (140737488355328 : Nat) ∧
 (0 : Nat) + x.fst.length ≤ (140737488355328 : Nat)) ∧
 ∃ (x_1 : Int × Int × Bool × Int),
 x.snd.fst = x_1.fst ∧
 x.snd.snd.fst = x_1.snd.fst ∧
 x.snd.snd.snd.fst = x_1.snd.snd.fst ∧
 x.snd.snd.snd.snd = x_1.snd.snd.snd ∧
 (((0 : Int) ≤ (pA x_1).fst ∧ (pA x_1).fst < (18446744073709551616 : Int)) ∧
 (0 : Int) ≤ (pA x_1).snd.fst ∧ (pA x_1).snd.fst < (18446744073709551616 : Int)) ∧
 ∀ (y : Unit),
 True →
 ifB (!saneP x_1)
 (∃ (y : Unit),
 True ∧
 (0 : Nat) + x.fst.length = (x.fst ++ putP x.snd).length ∧
 [] ++ x.fst = x.fst ++ putP x.snd ∧ True)
 (ifB x.snd.snd.snd.fst
 ((((0 : Nat) + x.fst.length + (1 : Nat)) * (1 : Nat) ≤ (140737488355328 : Nat) ∧
 (0 : Nat) + x.fst.length + (1 : Nat) ≤ (140737488355328 : Nat)) ∧
 (((0 : Nat) + x.fst.length + (1 : Nat) + [x.snd.snd.snd.snd % (256 : Int)].length) *
 (1 : Nat) ≤
 (140737488355328 : Nat) ∧
 (0 : Nat) + x.fst.length + (1 : Nat) + [x.snd.snd.snd.snd % (256 : Int)].length ≤
 (140737488355328 : Nat)) ∧
 ((-9223372036854775808 : Int) ≤ x.snd.snd.snd.snd + (7 : Int) ∧
 x.snd.snd.snd.snd + (7 : Int) ≤ (9223372036854775807 : Int)) ∧
 ((0 : Int) ≤ x.snd.snd.snd.snd + (7 : Int) ∧ (0 : Int) < (8 : Int)) ∧
 ∃ (x_2 : Int × Int × Bool),
 x.snd.fst = x_2.fst ∧
 x.snd.snd.fst = x_2.snd.fst ∧
 x.snd.snd.snd.fst = x_2.snd.snd ∧
 (((0 : Int) ≤ x_2.fst ∧ x_2.fst < (18446744073709551616 : Int)) ∧
 (0 : Int) ≤ x_2.snd.fst ∧ x_2.snd.fst < (18446744073709551616 : Int)) ∧
 ∀ (y : Unit),
 True →
 ((0 : Int) ≤ (x.snd.snd.snd.snd + (7 : Int)) / (8 : Int) ∧
 (x.snd.snd.snd.snd + (7 : Int)) / (8 : Int) ≤
 (↑(bytesA x_2).length : Int)) ∧
 (((0 : Nat) + x.fst.length + (1 : Nat) +
 [x.snd.snd.snd.snd % (256 : Int)].length +
 (List.drop (0 : Nat)
 (List.take
 ((x.snd.snd.snd.snd + (7 : Int)) / (8 : Int)).toNat
 (bytesA x_2))).length) *
 (1 : Nat) ≤
 (140737488355328 : Nat) ∧
 (0 : Nat) + x.fst.length + (1 : Nat) +
 [x.snd.snd.snd.snd % (256 : Int)].length +
 (List.drop (0 : Nat)
 (List.take
 ((x.snd.snd.snd.snd + (7 : Int)) / (8 : Int)).toNat
 (bytesA x_2))).length ≤
 (140737488355328 : Nat)) ∧
 ∃ (y : Unit),
 True ∧
 (0 : Nat) + x.fst.length + (1 : Nat) +
 [x.snd.snd.snd.snd % (256 : Int)].length +
 (List.drop (0 : Nat)
 (List.take
 ((x.snd.snd.snd.snd + (7 : Int)) / (8 : Int)).toNat
 (bytesA x_2))).length =
 (x.fst ++ putP x.snd).length ∧
 [] ++ x.fst ++ [(6 : Int)] ++
 [x.snd.snd.snd.snd % (256 : Int)] ++
 List.drop (0 : Nat)
 (List.take
 ((x.snd.snd.snd.snd + (7 : Int)) / (8 : Int)).toNat
 (bytesA x_2)) =
 x.fst ++ putP x.snd ∧
 True)
 ((((0 : Nat) + x.fst.length + (1 : Nat)) * (1 : Nat) ≤ (140737488355328 : Nat) ∧
 (0 : Nat) + x.fst.length + (1 : Nat) ≤ (140737488355328 : Nat)) ∧
 (((0 : Nat) + x.fst.length + (1 : Nat) + [x.snd.snd.snd.snd % (256 : Int)].length) *
 (1 : Nat) ≤
 (140737488355328 : Nat) ∧
 (0 : Nat) + x.fst.length + (1 : Nat) + [x.snd.snd.snd.snd % (256 : Int)].length ≤
 (140737488355328 : Nat)) ∧
 ((-9223372036854775808 : Int) ≤ x.snd.snd.snd.snd + (7 : Int) ∧
 x.snd.snd.snd.snd + (7 : Int) ≤ (9223372036854775807 : Int)) ∧
 ((0 : Int) ≤ x.snd.snd.snd.snd + (7 : Int) ∧ (0 : Int) < (8 : Int)) ∧
 ∃ (x_2 : Int × Int × Bool),
 x.snd.fst = x_2.fst ∧
 x.snd.snd.fst = x_2.snd.fst ∧
 x.snd.snd.snd.fst = x_2.snd.snd ∧
 (((0 : Int) ≤ x_2.fst ∧ x_2.fst < (18446744073709551616 : Int)) ∧
 (0 : Int) ≤ x_2.snd.fst ∧ x_2.snd.fst < (18446744073709551616 : Int)) ∧
 ∀ (y : Unit),
 True →
 ((0 : Int) ≤ (x.snd.snd.snd.snd + (7 : Int)) / (8 : Int) ∧
 (x.snd.snd.snd.snd + (7 : Int)) / (8 : Int) ≤
 (↑(bytesA x_2).length : Int)) ∧
 (((0 : Nat) + x.fst.length + (1 : Nat) +
 [x.snd.snd.snd.snd % (256 : Int)].length +
 (List.drop (0 : Nat)
 (List.take
 ((x.snd.snd.snd.snd + (7 : Int)) / (8 : Int)).toNat
 (bytesA x_2))).length) *
 (1 : Nat) ≤
 (140737488355328 : Nat) ∧
 (0 : Nat) + x.fst.length + (1 : Nat) +
 [x.snd.snd.snd.snd % (256 : Int)].length +
 (List.drop (0 : Nat)
 (List.take
 ((x.snd.snd.snd.snd + (7 : Int)) / (8 : Int)).toNat
 (bytesA x_2))).length ≤
 (140737488355328 : Nat)) ∧
 ∃ (y : Unit),
 True ∧
 (0 : Nat) + x.fst.length + (1 : Nat) +
 [x.snd.snd.snd.snd % (256 : Int)].length +
 (List.drop (0 : Nat)
 (List.take
 ((x.snd.snd.snd.snd + (7 : Int)) / (8 : Int)).toNat
 (bytesA x_2))).length =
 (x.fst ++ putP x.snd).length ∧
 [] ++ x.fst ++ [(4 : Int)] ++
 [x.snd.snd.snd.snd % (256 : Int)] ++
 List.drop (0 : Nat)
 (List.take
 ((x.snd.snd.snd.snd + (7 : Int)) / (8 : Int)).toNat
 (bytesA x_2)) =
 x.fst ++ putP x.snd ∧
 True))
theorem o_rput : owes Try.prog (tab R3) LqR 0 52 Try.f52 PutS = T_rput := by kernel_rfl
end Sp
