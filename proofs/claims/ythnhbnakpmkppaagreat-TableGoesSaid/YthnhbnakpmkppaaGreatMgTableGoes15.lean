import Derived.ProofKit
import Derived.Test.YthnhbnakpmkppaaGreatMgTableGoes7
import Derived.Test.YthnhbnakpmkppaaGreatMgTableGoes14
section
set_option linter.all false
set_option maxRecDepth 100000
namespace Sp
open Go Go.Proofs Sx
@[reducible] def H_SpRt_1 (v1 : List Int × Pf) (v2 : Int × Int × Bool) : Prop :=
 ((0 : Nat) + v1.1.length + (1 : Nat) + [v1.2.2.2.2 % (256 : Int)].length + (List.drop (0 : Nat) (List.take ((v1.2.2.2.2 + (7 : Int)) / (8 : Int)).toNat (bytesA v2))).length) * (1 : Nat) <=
 (140737488355328 : Nat) /\ (0 : Nat) + v1.1.length + (1 : Nat) + [v1.2.2.2.2 % (256 : Int)].length + (List.drop (0 : Nat) (List.take ((v1.2.2.2.2 + (7 : Int)) / (8 : Int)).toNat (bytesA v2))).length
 <= (140737488355328 : Nat)
@[reducible] def H_SpRt_2 (v1 : Ad × Int) : Prop :=
 (((0 : Int) <= v1.1.1 /\ v1.1.1 < (18446744073709551616 : Int)) /\ (0 : Int) <= v1.1.2.1 /\ v1.1.2.1 < (18446744073709551616 : Int)) /\ (0 : Int) <= v1.2 /\ v1.2 < (128 : Int)
@[reducible] def H_SpRt_3 (v1 : List Int × Pf) : Prop :=
 ((0 : Nat) + v1.1.length + (1 : Nat) + [v1.2.2.2.2 % (256 : Int)].length) * (1 : Nat) <= (140737488355328 : Nat) /\ (0 : Nat) + v1.1.length + (1 : Nat) + [v1.2.2.2.2 % (256 : Int)].length <=
 (140737488355328 : Nat)
def T_rwidth  : Prop :=
 ∀ (x : Bool), True -> ifB x (∃ (y : Unit), True /\ (128 : Int) = (↑(wd x) : Int) /\ True) (∃ (y : Unit), True /\ (32 : Int) = (↑(wd x) : Int) /\ True)
def T_raw  : Prop :=
 ∀ (x : Ad × Int), (((0 : Int) <= x.1.1 /\ x.1.1 < (18446744073709551616 : Int)) /\ (0 : Int) <= x.1.2.1 /\ x.1.2.1 < (18446744073709551616 : Int)) /\ (0 : Int) <= x.2 /\ x.2 < (128 : Int) -> ifB
 (decide (x.2 < (64 : Int))) (((-9223372036854775808 : Int) <= (63 : Int) - x.2 /\ (63 : Int) - x.2 <= (9223372036854775807 : Int)) /\ (0 : Int) <= ((63 : Int) - x.2) % (18446744073709551616 : Int) /\
 ((-9223372036854775808 : Int) <= bits BinOp.and IntKind.u64 (x.1.1 / (2 : Int) ^ min (((63 : Int) - x.2) % (18446744073709551616 : Int)).toNat (64 : Nat)) (1 : Int) /\ bits BinOp.and IntKind.u64
 (x.1.1 / (2 : Int) ^ min (((63 : Int) - x.2) % (18446744073709551616 : Int)).toNat (64 : Nat)) (1 : Int) <= (9223372036854775807 : Int)) /\ ∃ (y : Unit), True /\ bits BinOp.and IntKind.u64 (x.1.1 / (2
 : Int) ^ min (((63 : Int) - x.2) % (18446744073709551616 : Int)).toNat (64 : Nat)) (1 : Int) = b2i ((wordsA x.1).getD x.2.toNat false) /\ True) (((-9223372036854775808 : Int) <= (127 : Int) - x.2 /\
 (127 : Int) - x.2 <= (9223372036854775807 : Int)) /\ (0 : Int) <= ((127 : Int) - x.2) % (18446744073709551616 : Int) /\ ((-9223372036854775808 : Int) <= bits BinOp.and IntKind.u64 (x.1.2.1 / (2 : Int)
 ^ min (((127 : Int) - x.2) % (18446744073709551616 : Int)).toNat (64 : Nat)) (1 : Int) /\ bits BinOp.and IntKind.u64 (x.1.2.1 / (2 : Int) ^ min (((127 : Int) - x.2) % (18446744073709551616 :
 Int)).toNat (64 : Nat)) (1 : Int) <= (9223372036854775807 : Int)) /\ ∃ (y : Unit), True /\ bits BinOp.and IntKind.u64 (x.1.2.1 / (2 : Int) ^ min (((127 : Int) - x.2) % (18446744073709551616 :
 Int)).toNat (64 : Nat)) (1 : Int) = b2i ((wordsA x.1).getD x.2.toNat false) /\ True)
def T_rsanea  : Prop :=
 ∀ (x : Int × Int × Bool), ((0 : Int) <= x.1 /\ x.1 < (18446744073709551616 : Int)) /\ (0 : Int) <= x.2.1 /\ x.2.1 < (18446744073709551616 : Int) -> ∃ (I : Int -> Prop), ∃ (μ : Int -> Nat), (∃ (x :
 Int), I x /\ (32 : Int) = x /\ True) /\ ∀ (x_1 : Int), I x_1 -> ifB (decide (x_1 < (128 : Int))) (ifB (!x.2.2) (∃ (x_2 : Ad × Int), x.1 = x_2.1.1 /\ x.2.1 = x_2.1.2.1 /\ x.2.2 = x_2.1.2.2 /\ x_1 =
 x_2.2 /\ (H_SpRt_2 x_2) /\ ∀ (y : Unit), True -> ifB (!decide (b2i ((wordsA x_2.1).getD x_2.2.toNat false) = (0 : Int))) (∃ (y : Unit), True /\ false = saneA x /\ True) (((-9223372036854775808 : Int)
 <= x_1 + (1 : Int) /\ x_1 + (1 : Int) <= (9223372036854775807 : Int)) /\ ∃ (y : Int), I y /\ μ y < μ x_1 /\ x_1 + (1 : Int) = y /\ True)) (∃ (y : Unit), True /\ true = saneA x /\ True)) (∃ (y : Unit),
 True /\ true = saneA x /\ True)
def T_rbit  : Prop :=
 ∀ (x : Ad × Int), ((0 : Int) <= x.1.1 /\ x.1.1 < (18446744073709551616 : Int)) /\ (0 : Int) <= x.1.2.1 /\ x.1.2.1 < (18446744073709551616 : Int) -> ifB (decide (x.2 < (0 : Int))) (∃ (y : Unit), True
 /\ (0 : Int) = bitZ x.1 x.2 /\ True) (∃ (x_1 : Bool), x.1.2.2 = x_1 /\ True /\ ∀ (y : Unit), True -> ifB (decide ((↑(wd x_1) : Int) <= x.2)) (∃ (y : Unit), True /\ (0 : Int) = bitZ x.1 x.2 /\ True) (∃
 (x_2 : Ad × Int), x.1.1 = x_2.1.1 /\ x.1.2.1 = x_2.1.2.1 /\ x.1.2.2 = x_2.1.2.2 /\ x.2 = x_2.2 /\ (H_SpRt_2 x_2) /\ ∀ (y : Unit), True -> ∃ (y : Unit), True /\ b2i ((wordsA x_2.1).getD x_2.2.toNat
 false) = bitZ x.1 x.2 /\ True))
def T_rdigits  : Prop :=
 ∀ (x : Int × Int × Bool), ((0 : Int) <= x.1 /\ x.1 < (18446744073709551616 : Int)) /\ (0 : Int) <= x.2.1 /\ x.2.1 < (18446744073709551616 : Int) -> ∃ (I : Int × List Int -> Prop), ∃ (μ : Int × List
 Int -> Nat), (∃ (x : Int × List Int), I x /\ (0 : Int) = x.1 /\ (0 : Nat) = x.2.length /\ [] = x.2 /\ True) /\ ∀ (x_1 : Int × List Int), I x_1 -> ∃ (x_2 : Bool), x.2.2 = x_2 /\ True /\ ∀ (y : Unit),
 True -> ifB (decide (x_1.1 < (↑(wd x_2) : Int))) (∃ (x_3 : Ad × Int), x.1 = x_3.1.1 /\ x.2.1 = x_3.1.2.1 /\ x.2.2 = x_3.1.2.2 /\ x_1.1 = x_3.2 /\ (H_SpRt_2 x_3) /\ ∀ (y : Unit), True -> ((x_1.2.length
 + [b2i ((wordsA x_3.1).getD x_3.2.toNat false)].length) * (8 : Nat) <= (140737488355328 : Nat) /\ x_1.2.length + [b2i ((wordsA x_3.1).getD x_3.2.toNat false)].length <= (140737488355328 : Nat)) /\
 ((-9223372036854775808 : Int) <= x_1.1 + (1 : Int) /\ x_1.1 + (1 : Int) <= (9223372036854775807 : Int)) /\ ∃ (y : Int × List Int), I y /\ μ y < μ x_1 /\ x_1.1 + (1 : Int) = y.1 /\ x_1.2.length + [b2i
 ((wordsA x_3.1).getD x_3.2.toNat false)].length = y.2.length /\ x_1.2 ++ [b2i ((wordsA x_3.1).getD x_3.2.toNat false)] = y.2 /\ True) (∃ (y : Unit), True /\ x_1.2.length = (List.map b2i (bitsA
 x)).length /\ x_1.2 = List.map b2i (bitsA x) /\ True)
def T_rof  : Prop :=
 ∀ (x : List Bool), x.length = (32 : Nat) \/ x.length = (128 : Nat) -> ∃ (I : Int × Int × Int × Bool -> Prop), ∃ (μ : Int × Int × Int × Bool -> Nat), (∃ (x_1 : Int × Int × Int × Bool), I x_1 /\ (0 :
 Int) = x_1.1 /\ (0 : Int) = x_1.2.1 /\ (0 : Int) = x_1.2.2.1 /\ decide ((↑x.length : Int) = (128 : Int)) = x_1.2.2.2 /\ True) /\ ∀ (x_1 : Int × Int × Int × Bool), I x_1 -> ifB (decide (x_1.1 <
 (↑x.length : Int))) (ifB (decide (x_1.1 < (64 : Int))) (((0 : Int) <= x_1.1 /\ x_1.1 < (↑x.length : Int)) /\ ((-9223372036854775808 : Int) <= (63 : Int) - x_1.1 /\ (63 : Int) - x_1.1 <=
 (9223372036854775807 : Int)) /\ (0 : Int) <= ((63 : Int) - x_1.1) % (18446744073709551616 : Int) /\ ((-9223372036854775808 : Int) <= x_1.1 + (1 : Int) /\ x_1.1 + (1 : Int) <= (9223372036854775807 :
 Int)) /\ ∃ (y : Int × Int × Int × Bool), I y /\ μ y < μ x_1 /\ x_1.1 + (1 : Int) = y.1 /\ bits BinOp.or IntKind.u64 x_1.2.1 ((List.map b2i x).getD x_1.1.toNat (0 : Int) % (18446744073709551616 : Int)
 * (2 : Int) ^ min (((63 : Int) - x_1.1) % (18446744073709551616 : Int)).toNat (64 : Nat) % (18446744073709551616 : Int)) = y.2.1 /\ x_1.2.2.1 = y.2.2.1 /\ x_1.2.2.2 = y.2.2.2 /\ True) (((0 : Int) <=
 x_1.1 /\ x_1.1 < (↑x.length : Int)) /\ ((-9223372036854775808 : Int) <= (127 : Int) - x_1.1 /\ (127 : Int) - x_1.1 <= (9223372036854775807 : Int)) /\ (0 : Int) <= ((127 : Int) - x_1.1) %
 (18446744073709551616 : Int) /\ ((-9223372036854775808 : Int) <= x_1.1 + (1 : Int) /\ x_1.1 + (1 : Int) <= (9223372036854775807 : Int)) /\ ∃ (y : Int × Int × Int × Bool), I y /\ μ y < μ x_1 /\ x_1.1 +
 (1 : Int) = y.1 /\ x_1.2.1 = y.2.1 /\ bits BinOp.or IntKind.u64 x_1.2.2.1 ((List.map b2i x).getD x_1.1.toNat (0 : Int) % (18446744073709551616 : Int) * (2 : Int) ^ min (((127 : Int) - x_1.1) %
 (18446744073709551616 : Int)).toNat (64 : Nat) % (18446744073709551616 : Int)) = y.2.2.1 /\ x_1.2.2.2 = y.2.2.2 /\ True)) (∃ (y : Unit), True /\ x_1.2.1 = (ofB (decide (x.length = (128 : Nat))) x).1
 /\ x_1.2.2.1 = (ofB (decide (x.length = (128 : Nat))) x).2.1 /\ x_1.2.2.2 = (ofB (decide (x.length = (128 : Nat))) x).2.2 /\ True)
def T_rsane  : Prop :=
 ∀ (x : Int × Int × Bool × Int), ((0 : Int) <= (pA x).1 /\ (pA x).1 < (18446744073709551616 : Int)) /\ (0 : Int) <= (pA x).2.1 /\ (pA x).2.1 < (18446744073709551616 : Int) -> ∃ (x_1 : Int × Int ×
 Bool), x.1 = x_1.1 /\ x.2.1 = x_1.2.1 /\ x.2.2.1 = x_1.2.2 /\ (((0 : Int) <= x_1.1 /\ x_1.1 < (18446744073709551616 : Int)) /\ (0 : Int) <= x_1.2.1 /\ x_1.2.1 < (18446744073709551616 : Int)) /\ ∀ (y :
 Unit), True -> ifB (!saneA x_1) (∃ (y : Unit), True /\ false = saneP x /\ True) (ifB (decide (x.2.2.2 < (0 : Int))) (∃ (y : Unit), True /\ false = saneP x /\ True) (∃ (x_2 : Bool), x.2.2.1 = x_2 /\
 True /\ ∀ (y : Unit), True -> ifB (decide ((↑(wd x_2) : Int) < x.2.2.2)) (∃ (y : Unit), True /\ false = saneP x /\ True) (∃ (I : Int -> Prop), ∃ (μ : Int -> Nat), (∃ (x_3 : Int), I x_3 /\ x.2.2.2 =
 x_3 /\ True) /\ ∀ (x_3 : Int), I x_3 -> ∃ (x_4 : Bool), x.2.2.1 = x_4 /\ True /\ ∀ (y : Unit), True -> ifB (decide (x_3 < (↑(wd x_4) : Int))) (∃ (x_5 : Ad × Int), x.1 = x_5.1.1 /\ x.2.1 = x_5.1.2.1 /\
 x.2.2.1 = x_5.1.2.2 /\ x_3 = x_5.2 /\ (((0 : Int) <= x_5.1.1 /\ x_5.1.1 < (18446744073709551616 : Int)) /\ (0 : Int) <= x_5.1.2.1 /\ x_5.1.2.1 < (18446744073709551616 : Int)) /\ ∀ (y : Unit), True ->
 ifB (!decide (bitZ x_5.1 x_5.2 = (0 : Int))) (∃ (y : Unit), True /\ false = saneP x /\ True) (((-9223372036854775808 : Int) <= x_3 + (1 : Int) /\ x_3 + (1 : Int) <= (9223372036854775807 : Int)) /\ ∃
 (y : Int), I y /\ μ y < μ x_3 /\ x_3 + (1 : Int) = y /\ True)) (∃ (y : Unit), True /\ true = saneP x /\ True))))
def T_rbytes  : Prop :=
 ∀ (x : Int × Int × Bool), ((0 : Int) <= x.1 /\ x.1 < (18446744073709551616 : Int)) /\ (0 : Int) <= x.2.1 /\ x.2.1 < (18446744073709551616 : Int) -> ∃ (x_1 : Int × Int × Bool), x.1 = x_1.1 /\ x.2.1 =
 x_1.2.1 /\ x.2.2 = x_1.2.2 /\ (((0 : Int) <= x_1.1 /\ x_1.1 < (18446744073709551616 : Int)) /\ (0 : Int) <= x_1.2.1 /\ x_1.2.1 < (18446744073709551616 : Int)) /\ ∀ (y : Unit), True -> ((0 : Int) <=
 (↑(List.map b2i (bitsA x_1)).length : Int) /\ (0 : Int) < (8 : Int)) /\ ((0 : Int) <= (↑(List.map b2i (bitsA x_1)).length : Int) / (8 : Int) /\ (↑(List.map b2i (bitsA x_1)).length : Int) / (8 : Int)
 <= (↑(List.map b2i (bitsA x_1)).length : Int) / (8 : Int) /\ (↑(List.map b2i (bitsA x_1)).length : Int) / (8 : Int) <= (140737488355328 : Int) /\ (↑(List.map b2i (bitsA x_1)).length : Int) / (8 : Int)
 * (1 : Int) <= (140737488355328 : Int)) /\ ∃ (I : Int × List Int -> Prop), ∃ (μ : Int × List Int -> Nat), (∃ (x : Int × List Int), I x /\ (0 : Int) = x.1 /\ List.replicate ((↑(List.map b2i (bitsA
 x_1)).length : Int) / (8 : Int)).toNat (0 : Int) = x.2 /\ True) /\ ∀ (x_2 : Int × List Int), I x_2 -> ifB (decide (x_2.1 < (↑(List.map b2i (bitsA x_1)).length : Int))) (((0 : Int) <= x_2.1 /\ (0 :
 Int) < (8 : Int)) /\ ((0 : Int) <= x_2.1 /\ (0 : Int) < (8 : Int)) /\ ((0 : Int) <= x_2.1 / (8 : Int) /\ x_2.1 / (8 : Int) < (↑((↑(List.map b2i (bitsA x_1)).length : Int) / (8 : Int)).toNat : Int)) /\
 ((0 : Int) <= x_2.1 /\ x_2.1 < (↑(List.map b2i (bitsA x_1)).length : Int)) /\ ((0 : Int) <= x_2.1 / (8 : Int) /\ x_2.1 / (8 : Int) < (↑((↑(List.map b2i (bitsA x_1)).length : Int) / (8 : Int)).toNat :
 Int)) /\ ((-9223372036854775808 : Int) <= x_2.1 + (1 : Int) /\ x_2.1 + (1 : Int) <= (9223372036854775807 : Int)) /\ ∃ (y : Int × List Int), I y /\ μ y < μ x_2 /\ x_2.1 + (1 : Int) = y.1 /\ x_2.2.set
 (x_2.1 / (8 : Int)).toNat ((x_2.2.getD (x_2.1 / (8 : Int)).toNat (0 : Int) * (2 : Int) % (256 : Int) + (List.map b2i (bitsA x_1)).getD x_2.1.toNat (0 : Int) % (256 : Int)) % (256 : Int)) = y.2 /\
 True) (∃ (y : Unit), True /\ ((↑(List.map b2i (bitsA x_1)).length : Int) / (8 : Int)).toNat = (bytesA x).length /\ x_2.2 = bytesA x /\ True)
def T_same  : Prop :=
 ∀ (x : List Rt × List Rt), x.1.length <= (1000000000 : Nat) /\ x.2.length <= (1000000000 : Nat) -> ifB (!decide ((↑x.1.length : Int) = (↑x.2.length : Int))) (∃ (y : Unit), True /\ false = decide (x.1
 = x.2) /\ True) (∃ (I : Int -> Prop), ∃ (μ : Int -> Nat), (∃ (x : Int), I x /\ (0 : Int) = x /\ True) /\ ∀ (x_1 : Int), I x_1 -> ifB (decide (x_1 < (↑x.1.length : Int))) (((0 : Int) <= x_1 /\ x_1 <
 (↑x.1.length : Int)) /\ ((0 : Int) <= x_1 /\ x_1 < (↑x.2.length : Int)) /\ ifB (!(decide ((x.1.getD x_1.toNat ((0 : Int), (0 : Int), false, (0 : Int), (0 : Int))).1 = (x.2.getD x_1.toNat ((0 : Int),
 (0 : Int), false, (0 : Int), (0 : Int))).1) && (decide ((x.1.getD x_1.toNat ((0 : Int), (0 : Int), false, (0 : Int), (0 : Int))).2.1 = (x.2.getD x_1.toNat ((0 : Int), (0 : Int), false, (0 : Int), (0 :
 Int))).2.1) && (decide ((x.1.getD x_1.toNat ((0 : Int), (0 : Int), false, (0 : Int), (0 : Int))).2.2.1 = (x.2.getD x_1.toNat ((0 : Int), (0 : Int), false, (0 : Int), (0 : Int))).2.2.1) && (decide
 ((x.1.getD x_1.toNat ((0 : Int), (0 : Int), false, (0 : Int), (0 : Int))).2.2.2.1 = (x.2.getD x_1.toNat ((0 : Int), (0 : Int), false, (0 : Int), (0 : Int))).2.2.2.1) && decide ((x.1.getD x_1.toNat ((0
 : Int), (0 : Int), false, (0 : Int), (0 : Int))).2.2.2.2 = (x.2.getD x_1.toNat ((0 : Int), (0 : Int), false, (0 : Int), (0 : Int))).2.2.2.2)))))) (∃ (y : Unit), True /\ false = decide (x.1 = x.2) /\
 True) (((-9223372036854775808 : Int) <= x_1 + (1 : Int) /\ x_1 + (1 : Int) <= (9223372036854775807 : Int)) /\ ∃ (y : Int), I y /\ μ y < μ x_1 /\ x_1 + (1 : Int) = y /\ True)) (∃ (y : Unit), True /\
 true = decide (x.1 = x.2) /\ True))
def T_rput  : Prop :=
 ∀ (x : List Int × Pf), x.1.length <= most /\ ((0 : Int) <= (pA x.2).1 /\ (pA x.2).1 < (18446744073709551616 : Int)) /\ (0 : Int) <= (pA x.2).2.1 /\ (pA x.2).2.1 < (18446744073709551616 : Int) -> (((0
 : Nat) + x.1.length) * (1 : Nat) <= (140737488355328 : Nat) /\ (0 : Nat) + x.1.length <= (140737488355328 : Nat)) /\ ∃ (x_1 : Int × Int × Bool × Int), x.2.1 = x_1.1 /\ x.2.2.1 = x_1.2.1 /\ x.2.2.2.1 =
 x_1.2.2.1 /\ x.2.2.2.2 = x_1.2.2.2 /\ (((0 : Int) <= (pA x_1).1 /\ (pA x_1).1 < (18446744073709551616 : Int)) /\ (0 : Int) <= (pA x_1).2.1 /\ (pA x_1).2.1 < (18446744073709551616 : Int)) /\ ∀ (y :
 Unit), True -> ifB (!saneP x_1) (∃ (y : Unit), True /\ (0 : Nat) + x.1.length = (x.1 ++ putP x.2).length /\ [] ++ x.1 = x.1 ++ putP x.2 /\ True) (ifB x.2.2.2.1 ((((0 : Nat) + x.1.length + (1 : Nat)) *
 (1 : Nat) <= (140737488355328 : Nat) /\ (0 : Nat) + x.1.length + (1 : Nat) <= (140737488355328 : Nat)) /\ (H_SpRt_3 x) /\ ((-9223372036854775808 : Int) <= x.2.2.2.2 + (7 : Int) /\ x.2.2.2.2 + (7 :
 Int) <= (9223372036854775807 : Int)) /\ ((0 : Int) <= x.2.2.2.2 + (7 : Int) /\ (0 : Int) < (8 : Int)) /\ ∃ (x_2 : Int × Int × Bool), x.2.1 = x_2.1 /\ x.2.2.1 = x_2.2.1 /\ x.2.2.2.1 = x_2.2.2 /\ (((0 :
 Int) <= x_2.1 /\ x_2.1 < (18446744073709551616 : Int)) /\ (0 : Int) <= x_2.2.1 /\ x_2.2.1 < (18446744073709551616 : Int)) /\ ∀ (y : Unit), True -> ((0 : Int) <= (x.2.2.2.2 + (7 : Int)) / (8 : Int) /\
 (x.2.2.2.2 + (7 : Int)) / (8 : Int) <= (↑(bytesA x_2).length : Int)) /\ (H_SpRt_1 x x_2) /\ ∃ (y : Unit), True /\ (0 : Nat) + x.1.length + (1 : Nat) + [x.2.2.2.2 % (256 : Int)].length + (List.drop (0
 : Nat) (List.take ((x.2.2.2.2 + (7 : Int)) / (8 : Int)).toNat (bytesA x_2))).length = (x.1 ++ putP x.2).length /\ [] ++ x.1 ++ [(6 : Int)] ++ [x.2.2.2.2 % (256 : Int)] ++ List.drop (0 : Nat)
 (List.take ((x.2.2.2.2 + (7 : Int)) / (8 : Int)).toNat (bytesA x_2)) = x.1 ++ putP x.2 /\ True) ((((0 : Nat) + x.1.length + (1 : Nat)) * (1 : Nat) <= (140737488355328 : Nat) /\ (0 : Nat) + x.1.length
 + (1 : Nat) <= (140737488355328 : Nat)) /\ (H_SpRt_3 x) /\ ((-9223372036854775808 : Int) <= x.2.2.2.2 + (7 : Int) /\ x.2.2.2.2 + (7 : Int) <= (9223372036854775807 : Int)) /\ ((0 : Int) <= x.2.2.2.2 +
 (7 : Int) /\ (0 : Int) < (8 : Int)) /\ ∃ (x_2 : Int × Int × Bool), x.2.1 = x_2.1 /\ x.2.2.1 = x_2.2.1 /\ x.2.2.2.1 = x_2.2.2 /\ (((0 : Int) <= x_2.1 /\ x_2.1 < (18446744073709551616 : Int)) /\ (0 :
 Int) <= x_2.2.1 /\ x_2.2.1 < (18446744073709551616 : Int)) /\ ∀ (y : Unit), True -> ((0 : Int) <= (x.2.2.2.2 + (7 : Int)) / (8 : Int) /\ (x.2.2.2.2 + (7 : Int)) / (8 : Int) <= (↑(bytesA x_2).length :
 Int)) /\ (H_SpRt_1 x x_2) /\ ∃ (y : Unit), True /\ (0 : Nat) + x.1.length + (1 : Nat) + [x.2.2.2.2 % (256 : Int)].length + (List.drop (0 : Nat) (List.take ((x.2.2.2.2 + (7 : Int)) / (8 : Int)).toNat
 (bytesA x_2))).length = (x.1 ++ putP x.2).length /\ [] ++ x.1 ++ [(4 : Int)] ++ [x.2.2.2.2 % (256 : Int)] ++ List.drop (0 : Nat) (List.take ((x.2.2.2.2 + (7 : Int)) / (8 : Int)).toNat (bytesA x_2)) =
 x.1 ++ putP x.2 /\ True))
def T_rgood  : Prop :=
 ∀ (x : Int × Int × Bool × Int × Int), ((0 : Int) <= (pA (rP x)).1 /\ (pA (rP x)).1 < (18446744073709551616 : Int)) /\ (0 : Int) <= (pA (rP x)).2.1 /\ (pA (rP x)).2.1 < (18446744073709551616 : Int) ->
 ∃ (x_1 : Int × Int × Bool × Int), x.1 = x_1.1 /\ x.2.1 = x_1.2.1 /\ x.2.2.1 = x_1.2.2.1 /\ x.2.2.2.1 = x_1.2.2.2 /\ (((0 : Int) <= (pA x_1).1 /\ (pA x_1).1 < (18446744073709551616 : Int)) /\ (0 : Int)
 <= (pA x_1).2.1 /\ (pA x_1).2.1 < (18446744073709551616 : Int)) /\ ∀ (y : Unit), True -> ifB (saneP x_1) (ifB (decide ((0 : Int) <= x.2.2.2.2)) (∃ (y : Unit), True /\ decide (x.2.2.2.2 <= (65535 :
 Int)) = goodR x /\ True) (∃ (y : Unit), True /\ false = goodR x /\ True)) (∃ (y : Unit), True /\ false = goodR x /\ True)
theorem o_rwidth : owes Tryz.prog (tab Rw) LqR 0 187 Tryz.f187 WidthZ = T_rwidth := by kernel_rfl
theorem o_raw : owes Tryz.prog (tab R0) LqR 0 242 Tryz.f242 RawS = T_raw := by kernel_rfl
theorem o_rsanea : owes Tryz.prog (tab R1) LqR 0 186 Tryz.f186 SaneAS = T_rsanea := by kernel_rfl
theorem o_rbit : owes Tryz.prog (tab R1) LqR 0 188 Tryz.f188 BitS = T_rbit := by kernel_rfl
theorem o_rdigits : owes Tryz.prog (tab R1) LqR 0 305 Tryz.f305 DigitsS = T_rdigits := by kernel_rfl
theorem o_rof : owes Tryz.prog (tab R1) LqR 0 306 Tryz.f306 OfLS = T_rof := by kernel_rfl
theorem o_rsane : owes Tryz.prog (tab R2) LqR 0 107 Tryz.f107 SaneZ = T_rsane := by kernel_rfl
theorem o_rbytes : owes Tryz.prog (tab R2) LqR 0 315 Tryz.f315 BytesS = T_rbytes := by kernel_rfl
theorem o_same : owes Tryz.prog (tab R2) LqR 0 31 Tryz.f31 SameS = T_same := by kernel_rfl
theorem o_rput : owes Tryz.prog (tab R3) LqR 0 309 Tryz.f309 PutS = T_rput := by kernel_rfl
theorem o_rgood : owes Tryz.prog (tab R3) LqR 0 40 Tryz.f40 GoodS = T_rgood := by kernel_rfl
end Sp
end
section
set_option linter.all false
set_option maxRecDepth 10000
namespace Sp
open Go Go.Proofs Sx Go.Proofs.YthnhbnakpmkppaaGreat.Ma
theorem p_rwidth : T_rwidth := by
  intro v6 _
  cases v6 <;> exact ⟨(), trivial, rfl, trivial⟩
theorem GRw : Goods Tryz.prog Rw := GW2
theorem GR0 : Goods Tryz.prog R0 := goods_cons (good_of_owes hM hP GRw Tryz.func187 rfl (o_rwidth ▸ p_rwidth)) GRw
theorem b2i_le (b : Bool) : 0 ≤ b2i b ∧ b2i b ≤ 1 := by cases b <;> decide
theorem b2i_eq0 (b : Bool) : b2i b = 0 ↔ b = false := by cases b <;> decide
theorem bit_and1 (x : Int) (h0 : 0 ≤ x) (h1 : x < 18446744073709551616) (k : Nat) : bits .and .u64 (x / 2 ^ k) 1 = b2i (x.toNat.testBit k) := by
  obtain ⟨n, rfl⟩ := Int.eq_ofNat_of_zero_le h0
  have e : ((n : Int) / 2 ^ k) = ((n / 2 ^ k : Nat) : Int) := by simp
  have hle : n / 2 ^ k ≤ n := Nat.div_le_self _ _
  rw [e, show (1 : Int) = ((1 : Nat) : Int) from rfl, u64_and_nat _ _ (by omega) (by omega), Nat.and_one_is_mod, Int.toNat_natCast, Nat.testBit_eq_decide_div_mod_eq]
  have h2 : n / 2 ^ k % 2 = 0 ∨ n / 2 ^ k % 2 = 1 := by omega
  rcases h2 with h | h <;> rw [h] <;> rfl
theorem words_lo (a : Ad) (i : Nat) (h : i < 64) : (wordsA a).getD i false = a.1.toNat.testBit (63 - i) := by
  unfold wordsA
  rw [List.getD_eq_getElem?_getD, List.getElem?_append_left (by rw [toB_length]; omega), toB_get, if_pos h]
  rfl
theorem words_hi (a : Ad) (i : Nat) (h : 64 ≤ i) (h' : i < 128) : (wordsA a).getD i false = a.2.1.toNat.testBit (127 - i) := by
  unfold wordsA
  rw [List.getD_eq_getElem?_getD, List.getElem?_append_right (by rw [toB_length]; omega), toB_length, toB_get, if_pos (by omega)]
  show a.2.1.toNat.testBit _ = _
  congr 1; omega
theorem wordsA_length (a : Ad) : (wordsA a).length = 128 := by simp [wordsA, toB_length]
theorem bits_words (a : Ad) (i : Nat) (h : i < wd a.2.2) : (bitsA a).getD i false = (wordsA a).getD i false := by
  unfold bitsA wordsA
  rw [List.getD_eq_getElem?_getD, List.getD_eq_getElem?_getD, List.getElem?_take, if_pos h]
theorem p_raw : T_raw := by
  rintro ⟨⟨hi, lo, v6⟩, i⟩ ⟨⟨⟨h1, h2⟩, h3, h4⟩, h5, h6⟩
  simp only at h1 h2 h3 h4 h5 h6 ⊢
  refine ifB_d (fun h => ?_) fun h => ?_
  · have e := bit_and1 hi h1 h2 (63 - i.toNat)
    have hb := b2i_le (hi.toNat.testBit (63 - i.toNat))
    rw [show min ((63 - i) % 18446744073709551616).toNat 64 = 63 - i.toNat by omega, e, words_lo (hi, lo, v6) i.toNat (by omega)]
    exact ⟨by omega, by omega, by omega, (), trivial, rfl, trivial⟩
  · have e := bit_and1 lo h3 h4 (127 - i.toNat)
    have hb := b2i_le (lo.toNat.testBit (127 - i.toNat))
    rw [show min ((127 - i) % 18446744073709551616).toNat 64 = 127 - i.toNat by omega, e, words_hi (hi, lo, v6) i.toNat (by omega) (by omega)]
    exact ⟨by omega, by omega, by omega, (), trivial, rfl, trivial⟩
theorem GR1 : Goods Tryz.prog R1 := goods_cons (good_of_owes hM hP GR0 Tryz.func242 rfl (o_raw ▸ p_raw)) GR0
theorem saneA_iff {a : Ad} (h : wfA a) : saneA a = true ↔ ∀ j, wd a.2.2 ≤ j → j < 128 → (wordsA a).getD j false = false := by
  rw [← words_eq h]
  have hl := bitsA_length a
  have hw := wd_le a.2.2
  constructor
  · intro e j h1 h2
    show (toB 64 a.1.toNat ++ toB 64 a.2.1.toNat).getD j false = false
    rw [e]
    unfold padr
    rw [List.getD_eq_getElem?_getD, List.getElem?_append_right (by omega), List.getElem?_replicate]
    split <;> rfl
  · intro e
    apply List.ext_getElem?
    intro j
    have hlw : (toB 64 a.1.toNat ++ toB 64 a.2.1.toNat).length = 128 := wordsA_length a
    by_cases h1 : j < wd a.2.2
    · unfold padr
      have r1 : (bitsA a ++ List.replicate (128 - (bitsA a).length) false)[j]? = (bitsA a)[j]? := List.getElem?_append_left (by omega)
      rw [r1]
      unfold bitsA
      rw [List.getElem?_take, if_pos h1]
    · by_cases h2 : j < 128
      · have := e j (by omega) h2
        unfold wordsA at this
        unfold padr
        have r1 : (bitsA a ++ List.replicate (128 - (bitsA a).length) false)[j]? = some false := by
          rw [List.getElem?_append_right (by omega), List.getElem?_replicate, if_pos (by omega)]
        rw [r1]
        rw [List.getD_eq_getElem?_getD, List.getElem?_eq_getElem (by omega)] at this
        rw [List.getElem?_eq_getElem (by omega)]
        exact congrArg some this
      · unfold padr
        rw [List.getElem?_eq_none (by omega), List.getElem?_eq_none (by rw [List.length_append, List.length_replicate]; omega)]
theorem p_rsanea : T_rsanea := by
  unfold T_rsanea; try dsimp only [H_SpRt_2]
  rintro ⟨hi, lo, v6⟩ hx
  have hx : wfA (hi, lo, v6) := hx
  have hs := saneA_iff hx
  refine ⟨fun x => ∃ k : Nat, x = k ∧ 32 ≤ k ∧ k ≤ 128 ∧ (v6 = false → ∀ j, 32 ≤ j → j < k → (wordsA (hi, lo, v6)).getD j false = false), fun x => (128 - x).toNat, ⟨32, ⟨32, rfl, by omega, by omega, fun _ j h1 h2 => by omega⟩, rfl, trivial⟩, ?_⟩
  rintro _ ⟨k, rfl, h1, h2, h3⟩
  have fin : v6 = true ∨ k = 128 → true = saneA (hi, lo, v6) := fun h => by
    refine (hs.2 fun j j1 j2 => ?_).symm
    cases v6 with
    | true => simp only [wd, if_true] at j1; omega
    | false => exact h3 rfl j j1 (by rcases h with h | h; cases h; omega)
  refine ifB_d (fun hlt => ?_) fun hge => ⟨(), trivial, fin (.inr (by omega)), trivial⟩
  cases v6 with
  | true => exact ⟨(), trivial, fin (.inl rfl), trivial⟩
  | false =>
    refine ⟨((hi, lo, false), (k : Int)), rfl, rfl, rfl, rfl, ⟨hx, by omega, by omega⟩, fun _ _ => ifB_nd (fun h => ?_) fun h => ?_⟩
    · rw [b2i_eq0] at h
      refine ⟨(), trivial, ?_, trivial⟩
      cases hsa : saneA (hi, lo, false) with
      | false => rfl
      | true => exact absurd (hs.1 hsa k (by simp [wd]; omega) (by omega)) h
    · rw [b2i_eq0] at h
      refine ⟨by omega, (k : Int) + 1, ⟨k + 1, by omega, by omega, by omega, fun _ j j1 j2 => ?_⟩, by simp only; omega, rfl, trivial⟩
      by_cases e : j = k
      · subst e; exact h
      · exact h3 rfl j j1 (by omega)
theorem p_rbit : T_rbit := by
  unfold T_rbit; try dsimp only [H_SpRt_2]
  rintro ⟨⟨hi, lo, v6⟩, i⟩ hx
  have hx : wfA (hi, lo, v6) := hx
  have hw := wd_le v6
  have hl := bitsA_length (hi, lo, v6)
  dsimp only
  refine ifB_d (fun h => ⟨(), trivial, ?_, trivial⟩) fun h => ⟨v6, rfl, trivial, fun _ _ => ifB_d (fun h' => ⟨(), trivial, ?_, trivial⟩) fun h' => ⟨((hi, lo, v6), i), rfl, rfl, rfl, rfl, ⟨hx, by simp only; omega, by simp only; omega⟩, fun _ _ => ⟨(), trivial, ?_, trivial⟩⟩⟩
  · unfold bitZ
    rw [if_neg (by omega)]
  · unfold bitZ
    rw [if_pos (by omega), List.getD_eq_getElem?_getD, List.getElem?_eq_none (by rw [hl]; simp only; omega)]
    rfl
  · unfold bitZ
    rw [if_pos (by omega), bits_words _ _ (by simp only; omega)]
theorem p_rdigits : T_rdigits := by
  unfold T_rdigits; try dsimp only [H_SpRt_2]
  rintro ⟨hi, lo, v6⟩ hx
  have hx : wfA (hi, lo, v6) := hx
  have hw := wd_le v6
  have hl : (bitsA (hi, lo, v6)).length = wd v6 := bitsA_length (hi, lo, v6)
  refine ⟨fun q => ∃ k : Nat, q.1 = k ∧ k ≤ wd v6 ∧ q.2 = ((bitsA (hi, lo, v6)).take k).map b2i, fun q => (wd v6 - q.1).toNat, ⟨(0, []), ⟨0, rfl, by omega, by simp⟩, rfl, rfl, rfl, trivial⟩, ?_⟩
  rintro ⟨_, _⟩ ⟨k, rfl, hk, rfl⟩
  dsimp only
  have hlen : (((bitsA (hi, lo, v6)).take k).map b2i).length = k := by rw [List.length_map, List.length_take]; omega
  refine ⟨v6, rfl, trivial, fun _ _ => ifB_d (fun h => ?_) fun h => ?_⟩
  · have e : ((bitsA (hi, lo, v6)).take k).map b2i ++ [b2i ((wordsA (hi, lo, v6)).getD k false)] = ((bitsA (hi, lo, v6)).take (k + 1)).map b2i := by
      have hb := bits_words (hi, lo, v6) k (by simp only; omega)
      rw [List.take_succ_eq_append_getElem (by omega), List.map_append, ← hb, List.getD_eq_getElem?_getD, List.getElem?_eq_getElem (by omega)]
      rfl
    refine ⟨((hi, lo, v6), (k : Int)), rfl, rfl, rfl, rfl, ⟨hx, by simp only; omega, by simp only; omega⟩, fun _ _ => ⟨⟨by rw [hlen]; simp; omega, by rw [hlen]; simp; omega⟩, by omega, ((k : Int) + 1, ((bitsA (hi, lo, v6)).take (k + 1)).map b2i), ⟨k + 1, by simp only; omega, by omega, rfl⟩, by simp only; omega, rfl, ?_, e, trivial⟩⟩
    rw [← List.length_append]
    exact congrArg List.length e
  · refine ⟨(), trivial, ?_, ?_, trivial⟩ <;> rw [List.take_of_length_le (by omega)]
theorem or_gen (l m : List Bool) (h : l.length + m.length ≤ 64) : bits .or .u64 ((valB (padr 64 l) : Nat) : Int) ((valB m * 2 ^ (64 - l.length - m.length) : Nat) : Int) = ((valB (padr 64 (l ++ m)) : Nat) : Int) := by
  have e2 := padr_app l [] (by simp; omega)
  have e3 := padr_app l m (by rw [List.length_append]; omega)
  rw [List.append_nil, valB_nil, Nat.zero_mul, Nat.add_zero] at e2
  have hm := valB_lt m
  have hlt : valB m * 2 ^ (64 - l.length - m.length) < 2 ^ (64 - l.length) := by
    have : 2 ^ (64 - l.length) = 2 ^ m.length * 2 ^ (64 - l.length - m.length) := by rw [← Nat.pow_add]; congr 1; omega
    rw [this]
    exact Nat.mul_lt_mul_of_pos_right hm (Nat.two_pow_pos _)
  rw [e2, e3]
  refine or_join _ _ _ hlt ?_
  have := valB_lt l
  have h3 : (valB l + 1) * 2 ^ (64 - l.length) ≤ 2 ^ l.length * 2 ^ (64 - l.length) := Nat.mul_le_mul_right _ this
  rw [← Nat.pow_add, show l.length + (64 - l.length) = 64 by omega, Nat.add_mul, Nat.one_mul] at h3
  have h64 : (2 : Nat) ^ 64 = 18446744073709551616 := rfl
  omega
theorem or_bit (l : List Bool) (b : Bool) (k : Nat) (hk : k < 64) (hl : l.length = k) : bits .or .u64 ((valB (padr 64 l) : Nat) : Int) (b2i b % 18446744073709551616 * 2 ^ (63 - k) % 18446744073709551616) = ((valB (padr 64 (l ++ [b])) : Nat) : Int) := by
  rw [← or_gen l [b] (by simp; omega)]
  congr 1
  have h1 : (2 : Nat) ^ (63 - k) ≤ 2 ^ 63 := Nat.pow_le_pow_right (by omega) (by omega)
  have h63 : (2 : Nat) ^ 63 = 9223372036854775808 := rfl
  have e1 : ((2 : Int) ^ (63 - k)) = ((2 ^ (63 - k) : Nat) : Int) := by simp
  have e2 : 64 - l.length - [b].length = 63 - k := by simp; omega
  rw [e2, e1]
  cases b
  · simp [b2i, valB_cons, valB_nil]
  · have : valB [true] = 1 := rfl
    rw [this]
    simp only [b2i, if_true]
    omega
theorem p_rof : T_rof := by
  intro x hx
  refine ⟨fun q => ∃ k : Nat, q.1 = k ∧ k ≤ x.length ∧ q.2.1 = ((valB (padr 64 ((x.take k).take 64)) : Nat) : Int) ∧ q.2.2.1 = ((valB (padr 64 ((x.take k).drop 64)) : Nat) : Int) ∧ q.2.2.2 = decide ((x.length : Int) = 128), fun q => (x.length - q.1).toNat, ⟨(0, 0, 0, decide ((x.length : Int) = 128)), ⟨0, rfl, by omega, by simp only [List.take_zero, List.take_nil]; decide, by simp only [List.take_zero, List.drop_nil]; decide, rfl⟩, rfl, rfl, rfl, rfl, trivial⟩, ?_⟩
  rintro ⟨_, _, _, _⟩ ⟨k, rfl, hk, rfl, rfl, rfl⟩
  dsimp only
  refine ifB_d (fun hlt => ?_) fun hge => ?_
  · have hlt : k < x.length := by omega
    have hs : x.take (k + 1) = x.take k ++ [x.getD k false] := by
      rw [List.take_succ_eq_append_getElem hlt, List.getD_eq_getElem?_getD, List.getElem?_eq_getElem hlt]; rfl
    have hg : (x.map b2i).getD k 0 = b2i (x.getD k false) := by
      rw [List.getD_eq_getElem?_getD, List.getElem?_map, List.getD_eq_getElem?_getD, List.getElem?_eq_getElem hlt]; rfl
    have hlk : (x.take k).length = k := by rw [List.length_take]; omega
    rw [Int.toNat_natCast, hg]
    refine ifB_d (fun h64 => ?_) fun h64 => ?_
    · have := or_bit ((x.take k).take 64) (x.getD k false) k (by omega) (by rw [List.length_take]; omega)
      rw [show min ((63 - (k : Int)) % 18446744073709551616).toNat 64 = 63 - k by omega, this]
      refine ⟨by omega, by omega, by omega, by omega, ((k : Int) + 1, ((valB (padr 64 ((x.take (k + 1)).take 64)) : Nat) : Int), ((valB (padr 64 ((x.take (k + 1)).drop 64)) : Nat) : Int), decide ((x.length : Int) = 128)), ⟨k + 1, by simp only; omega, by omega, rfl, rfl, rfl⟩, by simp only; omega, rfl, ?_, ?_, rfl, trivial⟩
      · rw [hs, List.take_of_length_le (l := x.take k) (by omega), List.take_of_length_le (l := x.take k ++ _) (by rw [List.length_append]; simp; omega)]
      · have d1 : (x.take k).drop 64 = [] := List.drop_eq_nil_of_le (by omega)
        have d2 : (x.take k ++ [x.getD k false]).drop 64 = [] := List.drop_eq_nil_of_le (by rw [List.length_append]; simp; omega)
        rw [hs, d1, d2]
    · have := or_bit ((x.take k).drop 64) (x.getD k false) (k - 64) (by omega) (by rw [List.length_drop]; omega)
      rw [show min ((127 - (k : Int)) % 18446744073709551616).toNat 64 = 63 - (k - 64) by omega, this]
      refine ⟨by omega, by omega, by omega, by omega, ((k : Int) + 1, ((valB (padr 64 ((x.take (k + 1)).take 64)) : Nat) : Int), ((valB (padr 64 ((x.take (k + 1)).drop 64)) : Nat) : Int), decide ((x.length : Int) = 128)), ⟨k + 1, by simp only; omega, by omega, rfl, rfl, rfl⟩, by simp only; omega, rfl, ?_, ?_, rfl, trivial⟩
      · rw [hs, List.take_append_of_le_length (l₁ := x.take k) (by omega)]
      · rw [hs, List.drop_append_of_le_length (by omega)]
  · have hkx : k = x.length := by omega
    subst hkx
    rw [List.take_length]
    refine ⟨(), trivial, rfl, rfl, ?_, trivial⟩
    show decide ((x.length : Int) = 128) = decide (x.length = 128)
    rw [decide_eq_decide]
    omega
theorem GR2 : Goods Tryz.prog R2 := goods_cons (good_of_owes hM hP GR1 Tryz.func186 rfl (o_rsanea ▸ p_rsanea)) (goods_cons (good_of_owes hM hP GR1 Tryz.func188 rfl (o_rbit ▸ p_rbit)) (goods_cons (good_of_owes hM hP GR1 Tryz.func305 rfl (o_rdigits ▸ p_rdigits)) (goods_cons (good_of_owes hM hP GR1 Tryz.func306 rfl (o_rof ▸ p_rof)) GR1)))
theorem ofB_zeros (v6 : Bool) (l : List Bool) (m : Nat) (h : l.length + m ≤ 128) : ofB v6 (l ++ List.replicate m false) = ofB v6 l := by
  unfold ofB
  have e1 : padr 64 ((l ++ List.replicate m false).take 64) = padr 64 (l.take 64) := by
    unfold padr
    rw [List.take_append, List.append_assoc]
    congr 1
    rw [List.take_replicate, List.replicate_append_replicate]
    congr 1
    simp; omega
  have e2 : padr 64 ((l ++ List.replicate m false).drop 64) = padr 64 (l.drop 64) := by
    unfold padr
    rw [List.drop_append, List.append_assoc]
    congr 1
    rw [List.drop_replicate, List.replicate_append_replicate]
    congr 1
    simp; omega
  rw [e1, e2]
theorem sane_of {p : Pf} (h : saneA (pA p) = true) (h0 : 0 ≤ p.2.2.2) (h1 : p.2.2.2 ≤ wd p.2.2.1) (hz : ∀ j, p.2.2.2.toNat ≤ j → j < wd p.2.2.1 → (bitsA (pA p)).getD j false = false) : saneP p = true := by
  refine sane_iff.2 ⟨?_, h0, h1⟩
  have hl : (bitsA (pA p)).length = wd p.2.2.1 := bitsA_length (pA p)
  have hw := wd_le p.2.2.1
  have hc : canA (pA p) = pA p := by simpa [saneA] using h
  have hd : (bitsA (pA p)).drop p.2.2.2.toNat = List.replicate (wd p.2.2.1 - p.2.2.2.toNat) false := by
    apply List.ext_getElem?
    intro j
    rw [List.getElem?_drop, List.getElem?_replicate]
    by_cases hj : p.2.2.2.toNat + j < wd p.2.2.1
    · rw [if_pos (by omega)]
      have := hz (p.2.2.2.toNat + j) (by omega) hj
      rw [List.getD_eq_getElem?_getD, List.getElem?_eq_getElem (by omega)] at this
      rw [List.getElem?_eq_getElem (by omega)]
      exact congrArg some this
    · rw [if_neg (by omega), List.getElem?_eq_none (by omega)]
  conv => rhs; rw [← hc]
  unfold canA maskA
  conv => rhs; rw [← List.take_append_drop p.2.2.2.toNat (bitsA (pA p)), hd]
  rw [ofB_zeros]
  rw [List.length_take]
  omega
theorem sane_bit {p : Pf} (h : saneP p = true) (j : Nat) (h1 : p.2.2.2.toNat ≤ j) : (bitsA (pA p)).getD j false = false := by
  rw [sane_bits h]
  unfold padr
  rw [List.getD_eq_getElem?_getD, List.getElem?_append_right (by rw [List.length_take]; omega), List.getElem?_replicate]
  split <;> rfl
theorem p_rsane : T_rsane := by
  rintro ⟨hi, lo, v6, n⟩ hx
  have hx : wfA (hi, lo, v6) := hx
  have hw := wd_le v6
  have no : (saneP (hi, lo, v6, n) = true → False) → false = saneP (hi, lo, v6, n) := fun h => by cases hs : saneP (hi, lo, v6, n) with | false => rfl | true => exact (h hs).elim
  refine ⟨(hi, lo, v6), rfl, rfl, rfl, hx, fun _ _ => ifB_b (fun h => ⟨(), trivial, no fun hs => ?_, trivial⟩) fun h => ifB_d (fun h0 => ⟨(), trivial, no fun hs => ?_, trivial⟩) fun h0 => ⟨v6, rfl, trivial, fun _ _ => ifB_d (fun h1 => ⟨(), trivial, no fun hs => ?_, trivial⟩) fun h1 => ?_⟩⟩
  · have := sane_can hs
    have h2 : saneA (hi, lo, v6) = true := by unfold saneA; simpa using this
    rw [h2] at h
    cases h
  · obtain ⟨_, h1, _⟩ := sane_iff.1 hs
    simp only at h0 h1
    omega
  · obtain ⟨_, _, h2⟩ := sane_iff.1 hs
    simp only at h1 h2
    omega
  · have h : saneA (hi, lo, v6) = true := by simpa using h
    dsimp only at h0 h1 ⊢
    refine ⟨fun x => ∃ k : Nat, x = k ∧ n.toNat ≤ k ∧ k ≤ wd v6 ∧ ∀ j, n.toNat ≤ j → j < k → (bitsA (hi, lo, v6)).getD j false = false, fun x => (wd v6 - x).toNat, ⟨n, ⟨n.toNat, by omega, by omega, by omega, fun j j1 j2 => by omega⟩, rfl, trivial⟩, ?_⟩
    rintro _ ⟨k, rfl, k1, k2, k3⟩
    refine ⟨v6, rfl, trivial, fun _ _ => ifB_d (fun hlt => ⟨((hi, lo, v6), (k : Int)), rfl, rfl, rfl, rfl, hx, fun _ _ => ifB_nd (fun hb => ⟨(), trivial, no fun hs => ?_, trivial⟩) fun hb => ⟨by omega, (k : Int) + 1, ⟨k + 1, by omega, by omega, by omega, fun j j1 j2 => ?_⟩, by simp only; omega, rfl, trivial⟩⟩) fun hge => ⟨(), trivial, ?_, trivial⟩⟩
    · have := sane_bit hs k k1
      apply hb
      unfold bitZ
      rw [if_pos (by simp only; omega), b2i_eq0]
      exact this
    · unfold bitZ at hb
      rw [if_pos (by simp only; omega), b2i_eq0] at hb
      by_cases e : j = k
      · subst e; exact hb
      · exact k3 j j1 (by omega)
    · exact (sane_of (p := (hi, lo, v6, n)) h (by simp only; omega) (by simp only; omega) fun j j1 j2 => k3 j j1 (by simp only at j2; omega)).symm
theorem part_next (L : List Bool) (n k : Nat) (hL : L.length = 8 * n) (hk : k < 8 * n) :
    ((List.range n).map fun i => ((valB ((L.drop (8 * i)).take (min 8 (k - 8 * i))) : Nat) : Int)).set (k / 8) ((((List.range n).map fun i => ((valB ((L.drop (8 * i)).take (min 8 (k - 8 * i))) : Nat) : Int)).getD (k / 8) 0 * 2 % 256 + b2i (L.getD k false) % 256) % 256) =
    (List.range n).map fun i => ((valB ((L.drop (8 * i)).take (min 8 (k + 1 - 8 * i))) : Nat) : Int) := by
  have hq : k / 8 < n := by omega
  have hkL : k < L.length := by omega
  have e0 : ((List.range n).map fun i => ((valB ((L.drop (8 * i)).take (min 8 (k - 8 * i))) : Nat) : Int)).getD (k / 8) 0 = ((valB ((L.drop (8 * (k / 8))).take (k % 8)) : Nat) : Int) := by
    rw [List.getD_eq_getElem?_getD, List.getElem?_map, List.getElem?_range hq]
    show ((valB _ : Nat) : Int) = _
    congr 3
    omega
  have e1 : (L.drop (8 * (k / 8))).take (k % 8 + 1) = (L.drop (8 * (k / 8))).take (k % 8) ++ [L.getD k false] := by
    rw [List.take_succ_eq_append_getElem (by rw [List.length_drop]; omega)]
    congr 2
    rw [List.getElem_drop, List.getD_eq_getElem?_getD, List.getElem?_eq_getElem hkL]
    show L[_] = L[k]
    congr 1
    omega
  have e2 : valB ((L.drop (8 * (k / 8))).take (k % 8 + 1)) = valB ((L.drop (8 * (k / 8))).take (k % 8)) * 2 + (L.getD k false).toNat := by
    rw [e1, valB_append]
    simp [valB_cons, valB_nil]
  have hlt := valB_lt ((L.drop (8 * (k / 8))).take (k % 8))
  have hlen : ((L.drop (8 * (k / 8))).take (k % 8)).length ≤ 7 := by rw [List.length_take]; omega
  have hlt2 := Nat.lt_of_lt_of_le hlt (Nat.pow_le_pow_right (by omega : 0 < 2) hlen)
  have hb : b2i (L.getD k false) = ((L.getD k false).toNat : Int) := by cases L.getD k false <;> rfl
  have hb1 := (L.getD k false).toNat_le
  apply List.ext_getElem?
  intro i
  rw [List.getElem?_set, e0, hb]
  by_cases hi : k / 8 = i
  · subst hi
    rw [if_pos rfl, if_pos (by simp; omega), List.getElem?_map, List.getElem?_range hq]
    show some _ = some ((valB _ : Nat) : Int)
    congr 1
    rw [show min 8 (k + 1 - 8 * (k / 8)) = k % 8 + 1 by omega, e2]
    omega
  · rw [if_neg hi, List.getElem?_map, List.getElem?_map]
    by_cases h : i < n
    · rw [List.getElem?_range h]
      show some ((valB _ : Nat) : Int) = some ((valB _ : Nat) : Int)
      rw [show min 8 (k + 1 - 8 * i) = min 8 (k - 8 * i) by omega]
    · rw [List.getElem?_eq_none (by simp; omega)]
      rfl
theorem bytesB_eq (n : Nat) : ∀ L : List Bool, bytesB n L = (List.range n).map fun i => ((valB ((L.drop (8 * i)).take 8) : Nat) : Int) := by
  intro L
  apply List.ext_getElem?
  intro i
  by_cases h : i < n
  · rw [bytesB_get n L i h, List.getElem?_map, List.getElem?_range h]; rfl
  · rw [List.getElem?_eq_none (by rw [bytesB_length]; omega), List.getElem?_eq_none (by simp; omega)]
theorem p_rbytes : T_rbytes := by
  intro a ha
  have ha : wfA a := ha
  have hl := bitsA_length a
  have hw := wd_le a.2.2
  have hwb := wd_bytes a.2.2
  obtain ⟨n, hn⟩ : ∃ n, wd a.2.2 / 8 = n := ⟨_, rfl⟩
  have hlm : ((bitsA a).map b2i).length = 8 * n := by rw [List.length_map]; omega
  refine ⟨a, rfl, rfl, rfl, ha, fun _ _ => ?_⟩
  rw [hlm]
  have hc : (((8 * n : Nat) : Int) / 8).toNat = n := by omega
  rw [hc]
  refine ⟨by omega, by omega, fun q => ∃ k : Nat, q.1 = k ∧ k ≤ 8 * n ∧ q.2 = (List.range n).map fun i => ((valB (((bitsA a).drop (8 * i)).take (min 8 (k - 8 * i))) : Nat) : Int), fun q => (8 * n - q.1).toNat, ⟨(0, List.replicate n 0), ⟨0, rfl, by omega, ?_⟩, rfl, rfl, trivial⟩, ?_⟩
  · apply List.ext_getElem?
    intro i
    rw [List.getElem?_replicate, List.getElem?_map]
    by_cases h : i < n
    · rw [if_pos h, List.getElem?_range h]
      simp [valB_nil]
    · rw [if_neg h, List.getElem?_eq_none (by simp; omega)]; rfl
  rintro ⟨_, _⟩ ⟨k, rfl, hk, rfl⟩
  dsimp only
  refine ifB_d (fun hlt => ?_) fun hge => ?_
  · have hs := part_next (bitsA a) n k (by omega) (by omega)
    have hg : ((bitsA a).map b2i).getD k 0 = b2i ((bitsA a).getD k false) := by
      rw [List.getD_eq_getElem?_getD, List.getElem?_map, List.getD_eq_getElem?_getD, List.getElem?_eq_getElem (by omega)]; rfl
    refine ⟨by omega, by omega, by omega, by omega, by omega, by omega, ((k : Int) + 1, (List.range n).map fun i => ((valB (((bitsA a).drop (8 * i)).take (min 8 (k + 1 - 8 * i))) : Nat) : Int)), ⟨k + 1, by simp only; omega, by omega, rfl⟩, by simp only; omega, rfl, ?_, trivial⟩
    rw [Int.toNat_natCast, hg, show ((k : Int) / 8).toNat = k / 8 by omega]
    exact hs
  · have hk8 : k = 8 * n := by omega
    subst hk8
    refine ⟨(), trivial, by rw [bytesA_length, hn], ?_, trivial⟩
    unfold bytesA
    rw [hn, bytesB_eq]
    apply List.map_congr_left
    intro i hi
    have hi := List.mem_range.1 hi
    congr 3
    omega
theorem and_u8 (c : Int) (h0 : 0 ≤ c) (h1 : c ≤ 255) (k : Nat) : bits .and .u8 (c / 2 ^ k) 1 = b2i (c.toNat.testBit k) := by
  obtain ⟨n, rfl⟩ := Int.eq_ofNat_of_zero_le h0
  have e : ((n : Int) / 2 ^ k) = ((n / 2 ^ k : Nat) : Int) := by simp
  have hle : n / 2 ^ k ≤ n := Nat.div_le_self _ _
  rw [e, show (1 : Int) = ((1 : Nat) : Int) from rfl, u8_and_nat _ _ (by omega) (by omega), Nat.and_one_is_mod, Int.toNat_natCast, Nat.testBit_eq_decide_div_mod_eq]
  have h2 : n / 2 ^ k % 2 = 0 ∨ n / 2 ^ k % 2 = 1 := by omega
  rcases h2 with h | h <;> rw [h] <;> rfl
theorem p_same : T_same := by
  rintro ⟨a, b⟩ ⟨ha, hb⟩
  dsimp only at ha hb ⊢
  refine ifB_nd (fun h => ⟨(), trivial, ?_, trivial⟩) fun h => ?_
  · have : a ≠ b := fun e => h (by rw [e])
    simp [this]
  · refine ⟨fun x => ∃ k : Nat, x = k ∧ k ≤ a.length ∧ a.take k = b.take k, fun x => (a.length - x).toNat, ⟨0, ⟨0, rfl, by omega, rfl⟩, rfl, trivial⟩, ?_⟩
    rintro _ ⟨k, rfl, hk, he⟩
    refine ifB_d (fun hlt => ⟨by omega, by omega, ?_⟩) fun hge => ⟨(), trivial, ?_, trivial⟩
    · have hka : k < a.length := by omega
      have hkb : k < b.length := by omega
      rw [Int.toNat_natCast, List.getD_eq_getElem?_getD, List.getD_eq_getElem?_getD, List.getElem?_eq_getElem hka, List.getElem?_eq_getElem hkb]
      simp only [Option.getD_some]
      have hcmp : (decide (a[k].1 = b[k].1) && (decide (a[k].2.1 = b[k].2.1) && (decide (a[k].2.2.1 = b[k].2.2.1) && (decide (a[k].2.2.2.1 = b[k].2.2.2.1) && decide (a[k].2.2.2.2 = b[k].2.2.2.2))))) = decide (a[k] = b[k]) := by
        rw [Bool.eq_iff_iff]
        simp only [Bool.and_eq_true, decide_eq_true_eq, Prod.ext_iff]
      rw [hcmp]
      refine ifB_nd (fun hne => ⟨(), trivial, ?_, trivial⟩) fun heq => ⟨by omega, (k : Int) + 1, ⟨k + 1, by omega, by omega, ?_⟩, by omega, rfl, trivial⟩
      · have : a ≠ b := fun e => hne (by subst e; rfl)
        simp [this]
      · rw [List.take_succ_eq_append_getElem hka, List.take_succ_eq_append_getElem hkb, he, heq]
    · rw [List.take_of_length_le (by omega), List.take_of_length_le (by omega)] at he
      simp [he]
theorem GR3 : Goods Tryz.prog R3 := goods_cons (good_of_owes hM hP GR2 Tryz.func107 rfl (o_rsane ▸ p_rsane)) (goods_cons (good_of_owes hM hP GR2 Tryz.func315 rfl (o_rbytes ▸ p_rbytes)) (goods_cons (good_of_owes hM hP GR2 Tryz.func31 rfl (o_same ▸ p_same)) GR2))
theorem p_rput : T_rput := by
  unfold T_rput; try dsimp only [H_SpRt_3, H_SpRt_1]
  rintro ⟨b, p⟩ ⟨hb, hp⟩
  have hb : b.length ≤ 1000000 := hb
  dsimp only
  refine ⟨⟨by omega, by omega⟩, p, rfl, rfl, rfl, rfl, hp, fun _ _ => ?_⟩
  cases hs : saneP p with
  | false => exact ⟨(), trivial, by rw [putP_bad hs, List.append_nil, Nat.zero_add], by rw [putP_bad hs, List.append_nil]; rfl, trivial⟩
  | true =>
    obtain ⟨_, h0, h1⟩ := sane_iff.1 hs
    have hw := wd_le p.2.2.1
    have hl := longZ_le h1
    have hlb : (bytesA (pA p)).length = wd p.2.2.1 / 8 := bytesA_length (pA p)
    have hn : ((p.2.2.2 + 7) / 8).toNat = longZ p.2.2.2 := rfl
    have ht := List.length_take (l := bytesA (pA p)) (i := longZ p.2.2.2)
    have hll : (((bytesA (pA p)).take (longZ p.2.2.2)).drop 0).length ≤ 16 := by rw [List.drop_zero, ht]; omega
    have fin : ∀ m : Int, m = (if p.2.2.1 = true then (6 : Int) else 4) → [] ++ b ++ [m] ++ [p.2.2.2 % 256] ++ ((bytesA (pA p)).take (longZ p.2.2.2)).drop 0 = b ++ putP p := fun m hm => by
      rw [← putP_sane hs m hm b]
      simp
    have fl : ∀ m : Int, m = (if p.2.2.1 = true then (6 : Int) else 4) → 0 + b.length + 1 + [p.2.2.2 % 256].length + (((bytesA (pA p)).take (longZ p.2.2.2)).drop 0).length = (b ++ putP p).length := fun m hm => by
      rw [← fin m hm]
      simp only [List.length_append, List.length_cons, List.length_nil]
    refine ifB_b (c := p.2.2.1) (fun h6 => ?_) fun h4 => ?_
    · have hm : (6 : Int) = if p.2.2.1 = true then (6 : Int) else 4 := by rw [if_pos h6]
      refine ⟨⟨by omega, by omega⟩, ⟨by simp only [List.length_cons, List.length_nil]; omega, by simp only [List.length_cons, List.length_nil]; omega⟩, by omega, by omega, pA p, rfl, rfl, rfl, hp, fun _ _ => ⟨⟨by omega, by rw [hlb]; omega⟩, ?_, (), trivial, fl 6 hm, fin 6 hm, trivial⟩⟩
      rw [hn]
      simp only [List.length_cons, List.length_nil]
      omega
    · have hm : (4 : Int) = if p.2.2.1 = true then (6 : Int) else 4 := by rw [if_neg (by simp [h4])]
      refine ⟨⟨by omega, by omega⟩, ⟨by simp only [List.length_cons, List.length_nil]; omega, by simp only [List.length_cons, List.length_nil]; omega⟩, by omega, by omega, pA p, rfl, rfl, rfl, hp, fun _ _ => ⟨⟨by omega, by rw [hlb]; omega⟩, ?_, (), trivial, fl 4 hm, fin 4 hm, trivial⟩⟩
      rw [hn]
      simp only [List.length_cons, List.length_nil]
      omega
theorem set_step (l : List Int) (m k : Nat) (hk : k < m) (hl : k < l.length) : (l.take k ++ List.replicate (m - k) (0 : Int)).set k (l.getD k 0) = l.take (k + 1) ++ List.replicate (m - (k + 1)) 0 := by
  rw [List.set_append, if_neg (by rw [List.length_take]; omega), List.length_take, Nat.min_eq_left (by omega), Nat.sub_self]
  obtain ⟨r, hr⟩ : ∃ r, m - k = r + 1 := ⟨m - k - 1, by omega⟩
  rw [hr, List.replicate_succ, List.set_cons_zero, List.take_succ_eq_append_getElem hl, List.append_assoc, show m - (k + 1) = r by omega, List.getD_eq_getElem?_getD, List.getElem?_eq_getElem hl]
  rfl
theorem get_core {x : List Int} (hx : okB x) {v6 : Bool} (hv : decide (x.getD 0 0 = 6) = v6) (h2 : ¬ x.length < 2) (h46 : x.getD 0 0 = 4 ∨ x.getD 0 0 = 6) (h3 : ¬ (wd v6 : Int) < x.getD 1 0) (h5 : ¬ x.length < 2 + longZ (x.getD 1 0)) :
    (wholeB v6 ((x.drop 2).take (longZ (x.getD 1 0)))).length = wd v6 / 8 ∧ okB (wholeB v6 ((x.drop 2).take (longZ (x.getD 1 0)))) ∧ fromE (wholeB v6 ((x.drop 2).take (longZ (x.getD 1 0)))) = (fromL (wholeB v6 ((x.drop 2).take (longZ (x.getD 1 0)))), 0) ∧ wfA (fromL (wholeB v6 ((x.drop 2).take (longZ (x.getD 1 0))))) ∧
    getP x = if saneP (mkP (fromL (wholeB v6 ((x.drop 2).take (longZ (x.getD 1 0))))) (x.getD 1 0)) = true then (mkP (fromL (wholeB v6 ((x.drop 2).take (longZ (x.getD 1 0))))) (x.getD 1 0), 2 + (longZ (x.getD 1 0) : Int), 0) else (zP, 0, 1) := by
  have hlz := longZ_le (n := x.getD 1 0) (v6 := v6) (by omega)
  have hwl := wd_le v6
  have hlen : (wholeB v6 ((x.drop 2).take (longZ (x.getD 1 0)))).length = wd v6 / 8 := by
    unfold wholeB
    rw [List.length_append, List.length_replicate, List.length_take, List.length_drop]
    omega
  have h416 : wd v6 / 8 = 4 ∨ wd v6 / 8 = 16 := by cases v6 <;> simp [wd]
  refine ⟨hlen, okB_append (okB_take (okB_drop hx 2) _) (okB_zeros _), fromE_ok (by rw [hlen]; exact h416), wfA_ofB _ (by rw [bitsL_length, hlen]; omega), ?_⟩
  unfold getP
  rw [hv, if_neg (by omega), if_neg (by omega), if_neg h3, if_neg (by omega)]
theorem GR4 : Goods Tryz.prog R4 := goods_cons (good_of_owes hM hP GR3 Tryz.func309 rfl (o_rput ▸ p_rput)) GR3
end Sp
end
section
set_option linter.all false
namespace Sp
open Go Go.Proofs Sx Go.Proofs.YthnhbnakpmkppaaGreat.Ma
def hstep (h c : Int) : Int := bits .xor .u64 h c * 1099511628211 % 18446744073709551616
def hashP (row : Int) (p : Pf) : Int := ((max row 0 % 256) :: putP p).foldl hstep 14695981039346656037
def HashS : Con := .pure (Int × Pf) (fun x => [.i .i64 x.1, .agg (pfV x.2)]) (fun x => wfP x.2) fun x => .i .u64 (hashP x.1 x.2)
abbrev Sk := List Int × Int
@[reducible] def skC (a : Nat) (s : Sk) : Ob := .cells [.f a s.1.length, .l (.i .i64 s.2)]
structure okK (s : Sk) : Prop where
  w : 1 ≤ s.2 ∧ s.2 ≤ 256
  l : ∃ r : Nat, 1 ≤ r ∧ r ≤ 4 ∧ (s.1.length : Int) = r * s.2
  c : ∀ x ∈ s.1, 0 ≤ x ∧ x ≤ 255
def rowsK (s : Sk) : Nat := ((s.1.length : Int) / s.2).toNat
def posK (s : Sk) (p : Pf) (k : Nat) : Nat := (k * s.2 + hashP k p % s.2).toNat
def incK (l : List Int) (i : Nat) : List Int := l.set i (min 255 (l.getD i 0 + 1))
def addK (s : Sk) (p : Pf) : Sk := if saneP p = true then ((List.range (rowsK s)).foldl (fun l k => incK l (posK s p k)) s.1, s.2) else s
def countK (s : Sk) (p : Pf) : Int := if saneP p = true then (List.range (rowsK s)).foldl (fun n k => min n (s.1.getD (posK s p k) 0)) 255 else 0
def decK (s : Sk) : Sk := (s.1.map (· / 2), s.2)
def rowsN (r : Int) : Int := max 1 (min r 4)
def widN (w : Int) : Int := max 1 (min w 256)
def newK (r w : Int) : Sk := (List.replicate (rowsN r * widN w).toNat 0, widN w)
def NewS : Con := { X := Int × Int, args := fun x => [.i .i64 x.1, .i .i64 x.2], heap := fun _ => [], pre := fun _ => True, outs := [{ Y := Unit, post := fun _ _ => True, res := fun _ _ => .a (.p 0 0), out := fun x _ => [(0, skC 1 (newK x.1 x.2)), (1, .row true u8K (newK x.1 x.2).1)], nn := 2 }] }
def AddS : Con := { X := Sk × Pf, args := fun x => [.one (.p 0 0), .agg (pfV x.2)], heap := fun x => [skC 1 x.1, .row true u8K x.1.1], pre := fun x => okK x.1 ∧ wfP x.2, outs := [{ Y := Unit, post := fun _ _ => True, res := fun x _ => .b (saneP x.2), out := fun x _ => [(1, .row true u8K (addK x.1 x.2).1)], nn := 0 }] }
def CountS : Con := .look (Sk × Pf) (fun x => [.one (.p 0 0), .agg (pfV x.2)]) (fun x => [skC 1 x.1, .row false u8K x.1.1]) (fun x => okK x.1 ∧ wfP x.2) fun x => .i .i64 (countK x.1 x.2)
def DecayS : Con := { X := Sk, args := fun _ => [.one (.p 0 0)], heap := fun x => [skC 1 x, .row true u8K x.1], pre := okK, outs := [{ Y := Unit, post := fun _ _ => True, res := fun _ _ => .tup [], out := fun x _ => [(1, .row true u8K (decK x).1)], nn := 0 }] }
def S0 : List (Nat × Con) := (282, HashS) :: R4
def S1 : List (Nat × Con) := (83, NewS) :: (179, AddS) :: (220, CountS) :: (165, DecayS) :: S0
def LqS : FuncId → Nat → Lan
  | 300, 0 => .unroll 3
  | 300, _ => .inv { X := Int × Int, slots := [16, 3], vals := fun x => [.i .i64 x.1, .i .u64 x.2], fix := [], new := [], drop := [], obs := fun _ => [] }
  | 239, _ => .inv { X := Int × List Int, slots := [33], vals := fun x => [.i .i64 x.1], fix := [1], new := [], drop := [], obs := fun x => [.row true u8K x.2] }
  | 165, _ => .inv { X := Int × List Int, slots := [10], vals := fun x => [.i .i64 x.1], fix := [1], new := [], drop := [], obs := fun x => [.row true u8K x.2] }
  | _, _ => .none
def LqSc : FuncId → Nat → Lan
  | 239, _ => .inv { X := Int × Int, slots := [33], vals := fun x => [.i .i64 x.1], fix := [3], new := [], drop := [], obs := fun x => [.cells [.l (.i .i64 x.2)]] }
  | _, _ => .none
end Sp
end
