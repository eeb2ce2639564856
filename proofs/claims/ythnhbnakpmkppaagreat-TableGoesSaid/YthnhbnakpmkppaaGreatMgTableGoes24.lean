import Derived.ProofKit
import Derived.Test.YthnhbnakpmkppaaGreatMgTableGoes11
import Derived.Test.YthnhbnakpmkppaaGreatMgTableGoes23
section
set_option linter.all false
set_option maxRecDepth 100000
namespace Sp
open Go Go.Proofs Sx
@[reducible] def H_SpAkt_1 (v1 : Int × Int × Bool) (v2 : Int × Int × Bool) (v3 : Int) (v4 : Ad × Ad) : Prop :=
 ∃ (b1 : Int), bits BinOp.xor IntKind.u64 (canA v1).2.1 (canA v2).2.1 = b1 /\ ((0 : Int) <= b1 /\ b1 < (18446744073709551616 : Int)) /\ ∀ (b2 : Unit), True -> ((-9223372036854775808 : Int) <= (64 :
 Int) - (↑(bl v3.toNat) : Int) + ((64 : Int) - (↑(bl b1.toNat) : Int)) /\ (64 : Int) - (↑(bl v3.toNat) : Int) + ((64 : Int) - (↑(bl b1.toNat) : Int)) <= (9223372036854775807 : Int)) /\ ∃ (b3 : Bool),
 v4.1.2.2 = b3 /\ True /\ ∀ (b4 : Unit), True -> ∃ (b5 : Unit), True /\ min ((64 : Int) - (↑(bl v3.toNat) : Int) + ((64 : Int) - (↑(bl b1.toNat) : Int))) (↑(wd b3) : Int) = commonI v4.1 v4.2 /\ True
@[reducible] def H_SpAkt_3 (v1 : Ad × Ad) (v2 : Int) : Prop :=
 ∃ (b1 : Bool), v1.1.2.2 = b1 /\ True /\ ∀ (b2 : Unit), True -> ∃ (b3 : Unit), True /\ min ((64 : Int) - (↑(bl v2.toNat) : Int)) (↑(wd b1) : Int) = commonI v1.1 v1.2 /\ True
@[reducible] def H_SpAkt_2 (v1 : Ad × Ad) (v2 : Int × Int × Bool) : Prop :=
 ∃ (b1 : Int × Int × Bool), v1.2.1 = b1.1 /\ v1.2.2.1 = b1.2.1 /\ v1.2.2.2 = b1.2.2 /\ (((0 : Int) <= b1.1 /\ b1.1 < (18446744073709551616 : Int)) /\ (0 : Int) <= b1.2.1 /\ b1.2.1 <
 (18446744073709551616 : Int)) /\ ∀ (b2 : Unit), True -> ∃ (b3 : Int), bits BinOp.xor IntKind.u64 (canA v2).1 (canA b1).1 = b3 /\ ((0 : Int) <= b3 /\ b3 < (18446744073709551616 : Int)) /\ ∀ (b4 :
 Unit), True -> ifB (decide ((64 : Int) - (↑(bl b3.toNat) : Int) = (64 : Int))) (H_SpAkt_1 v2 b1 b3 v1) (H_SpAkt_3 v1 b3)
@[reducible] def H_SpAkt_4 (v1 : Ad × Ad) : Prop :=
 ∃ (b1 : Int × Int × Bool), v1.1.1 = b1.1 /\ v1.1.2.1 = b1.2.1 /\ v1.1.2.2 = b1.2.2 /\ (((0 : Int) <= b1.1 /\ b1.1 < (18446744073709551616 : Int)) /\ (0 : Int) <= b1.2.1 /\ b1.2.1 <
 (18446744073709551616 : Int)) /\ ∀ (b2 : Unit), True -> (H_SpAkt_2 v1 b1) /\ ∃ (b3 : Int × Int × Bool), v1.2.1 = b3.1 /\ v1.2.2.1 = b3.2.1 /\ v1.2.2.2 = b3.2.2 /\ (((0 : Int) <= b3.1 /\ b3.1 <
 (18446744073709551616 : Int)) /\ (0 : Int) <= b3.2.1 /\ b3.2.1 < (18446744073709551616 : Int)) /\ ∀ (b4 : Unit), True -> ∃ (b5 : Int), bits BinOp.xor IntKind.u64 (canA b1).1 (canA b3).1 = b5 /\ ((0 :
 Int) <= b5 /\ b5 < (18446744073709551616 : Int)) /\ ∀ (b6 : Unit), True -> ifB (decide ((64 : Int) - (↑(bl b5.toNat) : Int) = (64 : Int))) (H_SpAkt_1 b1 b3 b5 v1) (H_SpAkt_3 v1 b5)
def T_alen  : Prop :=
 ∀ (x : Int), (0 : Int) <= x /\ x < (18446744073709551616 : Int) -> ifB (decide ((4294967296 : Int) <= x)) ((0 : Int) <= (32 : Int) /\ ifB (decide ((65536 : Int) <= x / (4294967296 : Int))) ((0 : Int)
 <= (16 : Int) /\ ((-9223372036854775808 : Int) <= (48 : Int) /\ (48 : Int) <= (9223372036854775807 : Int)) /\ ifB (decide ((256 : Int) <= x / (4294967296 : Int) / (65536 : Int))) ((0 : Int) <= (8 :
 Int) /\ ((-9223372036854775808 : Int) <= (56 : Int) /\ (56 : Int) <= (9223372036854775807 : Int)) /\ ((0 : Int) <= x / (4294967296 : Int) / (65536 : Int) / (256 : Int) % (256 : Int) /\ x / (4294967296
 : Int) / (65536 : Int) / (256 : Int) % (256 : Int) < (256 : Int)) /\ ((-9223372036854775808 : Int) <= (56 : Int) + tab8.getD (x / (4294967296 : Int) / (65536 : Int) / (256 : Int) % (256 : Int)).toNat
 (0 : Int) /\ (56 : Int) + tab8.getD (x / (4294967296 : Int) / (65536 : Int) / (256 : Int) % (256 : Int)).toNat (0 : Int) <= (9223372036854775807 : Int)) /\ ∃ (y : Unit), True /\ (56 : Int) + tab8.getD
 (x / (4294967296 : Int) / (65536 : Int) / (256 : Int) % (256 : Int)).toNat (0 : Int) = (↑(bl x.toNat) : Int) /\ True) (((0 : Int) <= x / (4294967296 : Int) / (65536 : Int) % (256 : Int) /\ x /
 (4294967296 : Int) / (65536 : Int) % (256 : Int) < (256 : Int)) /\ ((-9223372036854775808 : Int) <= (48 : Int) + tab8.getD (x / (4294967296 : Int) / (65536 : Int) % (256 : Int)).toNat (0 : Int) /\ (48
 : Int) + tab8.getD (x / (4294967296 : Int) / (65536 : Int) % (256 : Int)).toNat (0 : Int) <= (9223372036854775807 : Int)) /\ ∃ (y : Unit), True /\ (48 : Int) + tab8.getD (x / (4294967296 : Int) /
 (65536 : Int) % (256 : Int)).toNat (0 : Int) = (↑(bl x.toNat) : Int) /\ True)) (ifB (decide ((256 : Int) <= x / (4294967296 : Int))) ((0 : Int) <= (8 : Int) /\ ((-9223372036854775808 : Int) <= (40 :
 Int) /\ (40 : Int) <= (9223372036854775807 : Int)) /\ ((0 : Int) <= x / (4294967296 : Int) / (256 : Int) % (256 : Int) /\ x / (4294967296 : Int) / (256 : Int) % (256 : Int) < (256 : Int)) /\
 ((-9223372036854775808 : Int) <= (40 : Int) + tab8.getD (x / (4294967296 : Int) / (256 : Int) % (256 : Int)).toNat (0 : Int) /\ (40 : Int) + tab8.getD (x / (4294967296 : Int) / (256 : Int) % (256 :
 Int)).toNat (0 : Int) <= (9223372036854775807 : Int)) /\ ∃ (y : Unit), True /\ (40 : Int) + tab8.getD (x / (4294967296 : Int) / (256 : Int) % (256 : Int)).toNat (0 : Int) = (↑(bl x.toNat) : Int) /\
 True) (((0 : Int) <= x / (4294967296 : Int) % (256 : Int) /\ x / (4294967296 : Int) % (256 : Int) < (256 : Int)) /\ ((-9223372036854775808 : Int) <= (32 : Int) + tab8.getD (x / (4294967296 : Int) %
 (256 : Int)).toNat (0 : Int) /\ (32 : Int) + tab8.getD (x / (4294967296 : Int) % (256 : Int)).toNat (0 : Int) <= (9223372036854775807 : Int)) /\ ∃ (y : Unit), True /\ (32 : Int) + tab8.getD (x /
 (4294967296 : Int) % (256 : Int)).toNat (0 : Int) = (↑(bl x.toNat) : Int) /\ True))) (ifB (decide ((65536 : Int) <= x)) ((0 : Int) <= (16 : Int) /\ ((-9223372036854775808 : Int) <= (16 : Int) /\ (16 :
 Int) <= (9223372036854775807 : Int)) /\ ifB (decide ((256 : Int) <= x / (65536 : Int))) ((0 : Int) <= (8 : Int) /\ ((-9223372036854775808 : Int) <= (24 : Int) /\ (24 : Int) <= (9223372036854775807 :
 Int)) /\ ((0 : Int) <= x / (65536 : Int) / (256 : Int) % (256 : Int) /\ x / (65536 : Int) / (256 : Int) % (256 : Int) < (256 : Int)) /\ ((-9223372036854775808 : Int) <= (24 : Int) + tab8.getD (x /
 (65536 : Int) / (256 : Int) % (256 : Int)).toNat (0 : Int) /\ (24 : Int) + tab8.getD (x / (65536 : Int) / (256 : Int) % (256 : Int)).toNat (0 : Int) <= (9223372036854775807 : Int)) /\ ∃ (y : Unit),
 True /\ (24 : Int) + tab8.getD (x / (65536 : Int) / (256 : Int) % (256 : Int)).toNat (0 : Int) = (↑(bl x.toNat) : Int) /\ True) (((0 : Int) <= x / (65536 : Int) % (256 : Int) /\ x / (65536 : Int) %
 (256 : Int) < (256 : Int)) /\ ((-9223372036854775808 : Int) <= (16 : Int) + tab8.getD (x / (65536 : Int) % (256 : Int)).toNat (0 : Int) /\ (16 : Int) + tab8.getD (x / (65536 : Int) % (256 :
 Int)).toNat (0 : Int) <= (9223372036854775807 : Int)) /\ ∃ (y : Unit), True /\ (16 : Int) + tab8.getD (x / (65536 : Int) % (256 : Int)).toNat (0 : Int) = (↑(bl x.toNat) : Int) /\ True)) (ifB (decide
 ((256 : Int) <= x)) ((0 : Int) <= (8 : Int) /\ ((-9223372036854775808 : Int) <= (8 : Int) /\ (8 : Int) <= (9223372036854775807 : Int)) /\ ((0 : Int) <= x / (256 : Int) % (256 : Int) /\ x / (256 : Int)
 % (256 : Int) < (256 : Int)) /\ ((-9223372036854775808 : Int) <= (8 : Int) + tab8.getD (x / (256 : Int) % (256 : Int)).toNat (0 : Int) /\ (8 : Int) + tab8.getD (x / (256 : Int) % (256 : Int)).toNat (0
 : Int) <= (9223372036854775807 : Int)) /\ ∃ (y : Unit), True /\ (8 : Int) + tab8.getD (x / (256 : Int) % (256 : Int)).toNat (0 : Int) = (↑(bl x.toNat) : Int) /\ True) (((0 : Int) <= x % (256 : Int) /\
 x % (256 : Int) < (256 : Int)) /\ ((-9223372036854775808 : Int) <= (0 : Int) + tab8.getD (x % (256 : Int)).toNat (0 : Int) /\ (0 : Int) + tab8.getD (x % (256 : Int)).toNat (0 : Int) <=
 (9223372036854775807 : Int)) /\ ∃ (y : Unit), True /\ (0 : Int) + tab8.getD (x % (256 : Int)).toNat (0 : Int) = (↑(bl x.toNat) : Int) /\ True)))
def T_alz  : Prop :=
 ∀ (x : Int), (0 : Int) <= x /\ x < (18446744073709551616 : Int) -> ∃ (x_1 : Int), x = x_1 /\ ((0 : Int) <= x_1 /\ x_1 < (18446744073709551616 : Int)) /\ ∀ (y : Unit), True -> ((-9223372036854775808 :
 Int) <= (64 : Int) - (↑(bl x_1.toNat) : Int) /\ (64 : Int) - (↑(bl x_1.toNat) : Int) <= (9223372036854775807 : Int)) /\ ∃ (y : Unit), True /\ (64 : Int) - (↑(bl x_1.toNat) : Int) = (64 : Int) - (↑(bl
 x.toNat) : Int) /\ True
def T_acommon  : Prop :=
 ∀ (x : Ad × Ad), (((0 : Int) <= x.1.1 /\ x.1.1 < (18446744073709551616 : Int)) /\ (0 : Int) <= x.1.2.1 /\ x.1.2.1 < (18446744073709551616 : Int)) /\ ((0 : Int) <= x.2.1 /\ x.2.1 <
 (18446744073709551616 : Int)) /\ (0 : Int) <= x.2.2.1 /\ x.2.2.1 < (18446744073709551616 : Int) -> ifB (!decide (x.1.2.2 = x.2.2.2)) (∃ (y : Unit), True /\ (0 : Int) = commonI x.1 x.2 /\ True) ((∃
 (x_1 : Int × Int × Bool), x.1.1 = x_1.1 /\ x.1.2.1 = x_1.2.1 /\ x.1.2.2 = x_1.2.2 /\ (((0 : Int) <= x_1.1 /\ x_1.1 < (18446744073709551616 : Int)) /\ (0 : Int) <= x_1.2.1 /\ x_1.2.1 <
 (18446744073709551616 : Int)) /\ ∀ (y : Unit), True -> (∃ (x_2 : Int × Int × Bool), x.2.1 = x_2.1 /\ x.2.2.1 = x_2.2.1 /\ x.2.2.2 = x_2.2.2 /\ (((0 : Int) <= x_2.1 /\ x_2.1 < (18446744073709551616 :
 Int)) /\ (0 : Int) <= x_2.2.1 /\ x_2.2.1 < (18446744073709551616 : Int)) /\ ∀ (y : Unit), True -> (∃ (x_3 : Int), bits BinOp.xor IntKind.u64 (canA x_1).1 (canA x_2).1 = x_3 /\ ((0 : Int) <= x_3 /\ x_3
 < (18446744073709551616 : Int)) /\ ∀ (y : Unit), True -> ifB (decide ((64 : Int) - (↑(bl x_3.toNat) : Int) = (64 : Int))) (H_SpAkt_1 x_1 x_2 x_3 x) (H_SpAkt_3 x x_3)) /\ ∃ (x_3 : Int), bits BinOp.xor
 IntKind.u64 (canA x_1).1 (canA x_2).1 = x_3 /\ ((0 : Int) <= x_3 /\ x_3 < (18446744073709551616 : Int)) /\ ∀ (y : Unit), True -> ifB (decide ((64 : Int) - (↑(bl x_3.toNat) : Int) = (64 : Int)))
 (H_SpAkt_1 x_1 x_2 x_3 x) (H_SpAkt_3 x x_3)) /\ ((H_SpAkt_2 x x_1) /\ ∃ (x_2 : Int × Int × Bool), x.2.1 = x_2.1 /\ x.2.2.1 = x_2.2.1 /\ x.2.2.2 = x_2.2.2 /\ (((0 : Int) <= x_2.1 /\ x_2.1 <
 (18446744073709551616 : Int)) /\ (0 : Int) <= x_2.2.1 /\ x_2.2.1 < (18446744073709551616 : Int)) /\ ∀ (y : Unit), True -> ∃ (x_3 : Int), bits BinOp.xor IntKind.u64 (canA x_1).1 (canA x_2).1 = x_3 /\
 ((0 : Int) <= x_3 /\ x_3 < (18446744073709551616 : Int)) /\ ∀ (y : Unit), True -> ifB (decide ((64 : Int) - (↑(bl x_3.toNat) : Int) = (64 : Int))) (H_SpAkt_1 x_1 x_2 x_3 x) (H_SpAkt_3 x x_3)) /\
 (H_SpAkt_2 x x_1) /\ ∃ (x_2 : Int × Int × Bool), x.2.1 = x_2.1 /\ x.2.2.1 = x_2.2.1 /\ x.2.2.2 = x_2.2.2 /\ (((0 : Int) <= x_2.1 /\ x_2.1 < (18446744073709551616 : Int)) /\ (0 : Int) <= x_2.2.1 /\
 x_2.2.1 < (18446744073709551616 : Int)) /\ ∀ (y : Unit), True -> ∃ (x_3 : Int), bits BinOp.xor IntKind.u64 (canA x_1).1 (canA x_2).1 = x_3 /\ ((0 : Int) <= x_3 /\ x_3 < (18446744073709551616 : Int))
 /\ ∀ (y : Unit), True -> ifB (decide ((64 : Int) - (↑(bl x_3.toNat) : Int) = (64 : Int))) (H_SpAkt_1 x_1 x_2 x_3 x) (H_SpAkt_3 x x_3)) /\ ((H_SpAkt_4 x) /\ ∃ (x_1 : Int × Int × Bool), x.1.1 = x_1.1 /\
 x.1.2.1 = x_1.2.1 /\ x.1.2.2 = x_1.2.2 /\ (((0 : Int) <= x_1.1 /\ x_1.1 < (18446744073709551616 : Int)) /\ (0 : Int) <= x_1.2.1 /\ x_1.2.1 < (18446744073709551616 : Int)) /\ ∀ (y : Unit), True -> ∃
 (x_2 : Int × Int × Bool), x.2.1 = x_2.1 /\ x.2.2.1 = x_2.2.1 /\ x.2.2.2 = x_2.2.2 /\ (((0 : Int) <= x_2.1 /\ x_2.1 < (18446744073709551616 : Int)) /\ (0 : Int) <= x_2.2.1 /\ x_2.2.1 <
 (18446744073709551616 : Int)) /\ ∀ (y : Unit), True -> ∃ (x_3 : Int), bits BinOp.xor IntKind.u64 (canA x_1).1 (canA x_2).1 = x_3 /\ ((0 : Int) <= x_3 /\ x_3 < (18446744073709551616 : Int)) /\ ∀ (y :
 Unit), True -> ifB (decide ((64 : Int) - (↑(bl x_3.toNat) : Int) = (64 : Int))) (H_SpAkt_1 x_1 x_2 x_3 x) (H_SpAkt_3 x x_3)) /\ (H_SpAkt_4 x) /\ ∃ (x_1 : Int × Int × Bool), x.1.1 = x_1.1 /\ x.1.2.1 =
 x_1.2.1 /\ x.1.2.2 = x_1.2.2 /\ (((0 : Int) <= x_1.1 /\ x_1.1 < (18446744073709551616 : Int)) /\ (0 : Int) <= x_1.2.1 /\ x_1.2.1 < (18446744073709551616 : Int)) /\ ∀ (y : Unit), True -> ∃ (x_2 : Int ×
 Int × Bool), x.2.1 = x_2.1 /\ x.2.2.1 = x_2.2.1 /\ x.2.2.2 = x_2.2.2 /\ (((0 : Int) <= x_2.1 /\ x_2.1 < (18446744073709551616 : Int)) /\ (0 : Int) <= x_2.2.1 /\ x_2.2.1 < (18446744073709551616 : Int))
 /\ ∀ (y : Unit), True -> ∃ (x_3 : Int), bits BinOp.xor IntKind.u64 (canA x_1).1 (canA x_2).1 = x_3 /\ ((0 : Int) <= x_3 /\ x_3 < (18446744073709551616 : Int)) /\ ∀ (y : Unit), True -> ifB (decide ((64
 : Int) - (↑(bl x_3.toNat) : Int) = (64 : Int))) (H_SpAkt_1 x_1 x_2 x_3 x) (H_SpAkt_3 x x_3))
def T_aapart  : Prop :=
 ∀ (x : Pf × Pf), (((0 : Int) <= (pA x.1).1 /\ (pA x.1).1 < (18446744073709551616 : Int)) /\ (0 : Int) <= (pA x.1).2.1 /\ (pA x.1).2.1 < (18446744073709551616 : Int)) /\ ((0 : Int) <= (pA x.2).1 /\ (pA
 x.2).1 < (18446744073709551616 : Int)) /\ (0 : Int) <= (pA x.2).2.1 /\ (pA x.2).2.1 < (18446744073709551616 : Int) -> ∃ (x_1 : Int × Int × Bool × Int), x.1.1 = x_1.1 /\ x.1.2.1 = x_1.2.1 /\ x.1.2.2.1
 = x_1.2.2.1 /\ x.1.2.2.2 = x_1.2.2.2 /\ (((0 : Int) <= (pA x_1).1 /\ (pA x_1).1 < (18446744073709551616 : Int)) /\ (0 : Int) <= (pA x_1).2.1 /\ (pA x_1).2.1 < (18446744073709551616 : Int)) /\ ∀ (y :
 Unit), True -> ifB (saneP x_1) (∃ (x_2 : Int × Int × Bool × Int), x.2.1 = x_2.1 /\ x.2.2.1 = x_2.2.1 /\ x.2.2.2.1 = x_2.2.2.1 /\ x.2.2.2.2 = x_2.2.2.2 /\ (((0 : Int) <= (pA x_2).1 /\ (pA x_2).1 <
 (18446744073709551616 : Int)) /\ (0 : Int) <= (pA x_2).2.1 /\ (pA x_2).2.1 < (18446744073709551616 : Int)) /\ ∀ (y : Unit), True -> ifB (saneP x_2) (ifB (!decide (x.1.2.2.1 = x.2.2.2.1)) (∃ (y :
 Unit), True /\ true = apartP x.1 x.2 /\ True) (∃ (x_3 : Ad × Ad), x.1.1 = x_3.1.1 /\ x.1.2.1 = x_3.1.2.1 /\ x.1.2.2.1 = x_3.1.2.2 /\ x.2.1 = x_3.2.1 /\ x.2.2.1 = x_3.2.2.1 /\ x.2.2.2.1 = x_3.2.2.2 /\
 ((((0 : Int) <= x_3.1.1 /\ x_3.1.1 < (18446744073709551616 : Int)) /\ (0 : Int) <= x_3.1.2.1 /\ x_3.1.2.1 < (18446744073709551616 : Int)) /\ ((0 : Int) <= x_3.2.1 /\ x_3.2.1 < (18446744073709551616 :
 Int)) /\ (0 : Int) <= x_3.2.2.1 /\ x_3.2.2.1 < (18446744073709551616 : Int)) /\ ∀ (y : Unit), True -> ∃ (y : Unit), True /\ decide (commonI x_3.1 x_3.2 < min x.1.2.2.2 x.2.2.2.2) = apartP x.1 x.2 /\
 True)) (∃ (y : Unit), True /\ false = apartP x.1 x.2 /\ True)) (∃ (y : Unit), True /\ false = apartP x.1 x.2 /\ True)
theorem o_alen : owes Tryz.prog (tab P1) LqA 0 243 Tryz.f243 LenBZ = T_alen := by kernel_rfl
theorem o_alz : owes Tryz.prog (tab A0) LqA 0 181 Tryz.f181 LzZ = T_alz := by kernel_rfl
theorem o_acommon : owes Tryz.prog (tab A1) LqA 0 102 Tryz.f102 CommonZ = T_acommon := by kernel_rfl
theorem o_aapart : owes Tryz.prog (tab A2) LqA 0 36 Tryz.f36 ApartZ = T_aapart := by kernel_rfl
end Sp
end
section
set_option linter.all false
set_option maxRecDepth 10000
namespace Sp
open Go Go.Proofs Sx Go.Proofs.YthnhbnakpmkppaaGreat.Ma
theorem tab_ok : ∀ n, n < 256 → tab8.getD n 0 = (bl n : Int) := by decide +kernel
theorem bl_le {n m : Nat} : bl n ≤ m ↔ n < 2 ^ m := by
  unfold bl
  by_cases h : n = 0
  · rw [if_pos h, h]; exact ⟨fun _ => Nat.pow_pos (by omega), fun _ => Nat.zero_le _⟩
  · rw [if_neg h, Nat.add_one_le_iff, Nat.log2_lt h]
theorem bl_step {n k : Nat} (h : 2 ^ k ≤ n) : bl n = k + bl (n / 2 ^ k) := by
  have hp : 0 < 2 ^ k := Nat.pow_pos (by omega)
  have key : ∀ m, bl n ≤ m ↔ k + bl (n / 2 ^ k) ≤ m := by
    intro m
    rw [bl_le]
    by_cases hm : k ≤ m
    · obtain ⟨j, rfl⟩ : ∃ j, m = k + j := ⟨m - k, by omega⟩
      rw [Nat.add_le_add_iff_left, bl_le, Nat.div_lt_iff_lt_mul hp, Nat.pow_add, Nat.mul_comm]
    · constructor
      · intro hl
        have : 2 ^ m ≤ 2 ^ k := Nat.pow_le_pow_right (by omega) (by omega)
        omega
      · intro hl; omega
  have h1 := (key (k + bl (n / 2 ^ k))).2 (Nat.le_refl _)
  have h2 := (key (bl n)).1 (Nat.le_refl _)
  omega
theorem bl_64 {x : Int} (h : wfW x) : bl x.toNat ≤ 64 := bl_le.2 (by have := h.2; have := h.1; omega)
theorem leaf8 {v K : Int} {x m : Nat} (hv : v = m) (hm : m < 256) (hK : 0 ≤ K ∧ K ≤ 56) (hx : K + bl m = bl x) : (0 ≤ v % 256 ∧ v % 256 < 256) ∧ (-9223372036854775808 ≤ K + tab8.getD (v % 256).toNat 0 ∧ K + tab8.getD (v % 256).toNat 0 ≤ 9223372036854775807) ∧ ∃ y : Unit, True ∧ K + tab8.getD (v % 256).toNat 0 = (bl x : Int) ∧ True := by
  have e : (v % 256).toNat = m := by omega
  have hb : bl m ≤ 8 := bl_le.2 (by omega)
  rw [e, tab_ok m hm]
  exact ⟨by omega, by omega, (), trivial, hx, trivial⟩
theorem p_alen : T_alen := by
  rintro x ⟨h0, h1⟩
  obtain ⟨n, rfl⟩ : ∃ n : Nat, x = n := ⟨x.toNat, by omega⟩
  rw [show ((n : Int)).toNat = n from rfl]
  have s32 : 4294967296 ≤ n → bl n = 32 + bl (n / 4294967296) := fun h => bl_step (k := 32) h
  have s16 : ∀ m, 65536 ≤ m → bl m = 16 + bl (m / 65536) := fun m h => bl_step (k := 16) h
  have s8 : ∀ m, 256 ≤ m → bl m = 8 + bl (m / 256) := fun m h => bl_step (k := 8) h
  have d1 : (n : Int) / 4294967296 = ((n / 4294967296 : Nat) : Int) := by omega
  have d2 : ∀ m : Nat, (m : Int) / 65536 = ((m / 65536 : Nat) : Int) := fun m => by omega
  have d3 : ∀ m : Nat, (m : Int) / 256 = ((m / 256 : Nat) : Int) := fun m => by omega
  refine ifB_d (fun a => ⟨by decide, ?_⟩) fun a => ?_
  · have e1 := s32 (by omega)
    rw [d1]
    generalize hm : n / 4294967296 = m at *
    have hm32 : m < 4294967296 := by omega
    refine ifB_d (fun b => ⟨by decide, by decide, ?_⟩) fun b => ?_
    · have e2 := s16 m (by omega)
      rw [d2]
      generalize hk : m / 65536 = k at *
      refine ifB_d (fun c => ⟨by decide, by decide, ?_⟩) fun c => ?_
      · have e3 := s8 k (by omega)
        rw [d3]
        exact leaf8 rfl (by omega) (by decide) (by omega)
      · exact leaf8 rfl (by omega) (by decide) (by omega)
    · refine ifB_d (fun c => ⟨by decide, by decide, ?_⟩) fun c => ?_
      · have e3 := s8 m (by omega)
        rw [d3]
        exact leaf8 rfl (by omega) (by decide) (by omega)
      · exact leaf8 rfl (by omega) (by decide) (by omega)
  · refine ifB_d (fun b => ⟨by decide, by decide, ?_⟩) fun b => ?_
    · have e2 := s16 n (by omega)
      rw [d2]
      generalize hk : n / 65536 = k at *
      refine ifB_d (fun c => ⟨by decide, by decide, ?_⟩) fun c => ?_
      · have e3 := s8 k (by omega)
        rw [d3]
        exact leaf8 rfl (by omega) (by decide) (by omega)
      · exact leaf8 rfl (by omega) (by decide) (by omega)
    · refine ifB_d (fun c => ⟨by decide, by decide, ?_⟩) fun c => ?_
      · have e3 := s8 n (by omega)
        rw [d3]
        exact leaf8 rfl (by omega) (by decide) (by omega)
      · exact leaf8 rfl (by omega) (by decide) (by omega)
theorem p_alz : T_alz := by
  intro x h
  have := bl_64 h
  exact ⟨x, rfl, h, fun _ _ => ⟨by omega, (), trivial, rfl, trivial⟩⟩
theorem p_acommon : T_acommon := by
  unfold T_acommon; try dsimp only [H_SpAkt_1, H_SpAkt_3, H_SpAkt_2, H_SpAkt_4]
  rintro ⟨a, b⟩ ⟨ha, hb⟩
  dsimp only at ha hb ⊢
  have hc : ∀ x y : Int, wfW (bits .xor .u64 x y) := fun x y => by have := bits_range .xor .u64 x y; exact ⟨this.1, by have := this.2; simp only [hi] at this; omega⟩
  refine ifB_nd (fun h => ⟨(), trivial, by unfold commonI; rw [if_neg h], trivial⟩) fun h6 => ?_
  have b1 := bl_64 (hc (canA a).1 (canA b).1)
  have b2 := bl_64 (hc (canA a).2.1 (canA b).2.1)
  have tail : ∃ (x_3 : Int), bits BinOp.xor IntKind.u64 (canA a).fst (canA b).fst = x_3 ∧ (0 ≤ x_3 ∧ x_3 < 18446744073709551616) ∧ ∀ (y : Unit), True → ifB (decide (64 - ((bl x_3.toNat : Nat) : Int) = 64)) (∃ (x_4 : Int), bits BinOp.xor IntKind.u64 (canA a).snd.fst (canA b).snd.fst = x_4 ∧ (0 ≤ x_4 ∧ x_4 < 18446744073709551616) ∧ ∀ (y : Unit), True → (-9223372036854775808 ≤ 64 - ((bl x_3.toNat : Nat) : Int) + (64 - ((bl x_4.toNat : Nat) : Int)) ∧ 64 - ((bl x_3.toNat : Nat) : Int) + (64 - ((bl x_4.toNat : Nat) : Int)) ≤ 9223372036854775807) ∧ ∃ (x_5 : Bool), a.snd.snd = x_5 ∧ True ∧ ∀ (y : Unit), True → ∃ (y : Unit), True ∧ min (64 - ((bl x_3.toNat : Nat) : Int) + (64 - ((bl x_4.toNat : Nat) : Int))) ((wd x_5 : Nat) : Int) = commonI a b ∧ True) (∃ (x_4 : Bool), a.snd.snd = x_4 ∧ True ∧ ∀ (y : Unit), True → ∃ (y : Unit), True ∧ min (64 - ((bl x_3.toNat : Nat) : Int)) ((wd x_4 : Nat) : Int) = commonI a b ∧ True) := by
    refine ⟨_, rfl, hc _ _, fun _ _ => ifB_d (fun h => ⟨_, rfl, hc _ _, fun _ _ => ⟨by omega, a.2.2, rfl, trivial, fun _ _ => ⟨(), trivial, ?_, trivial⟩⟩⟩) fun h => ⟨a.2.2, rfl, trivial, fun _ _ => ⟨(), trivial, ?_, trivial⟩⟩⟩
    · unfold commonI lzX
      rw [if_pos h6, if_pos h]
    · unfold commonI lzX
      rw [if_pos h6, if_neg h]
  repeat' (first | exact tail | refine ⟨a, rfl, rfl, rfl, ha, fun _ _ => ?_⟩ | refine ⟨b, rfl, rfl, rfl, hb, fun _ _ => ?_⟩ | apply And.intro)
/-! ### first digits -/
theorem u64_xor_nat (a b : Nat) (ha : a < 18446744073709551616) (hb : b < 18446744073709551616) : bits .xor .u64 (a : Int) (b : Int) = ((a ^^^ b : Nat) : Int) := by
  have hx : a ^^^ b < 2 ^ 64 := Nat.xor_lt_two_pow (by omega) (by omega)
  have e : (BitVec.ofInt 64 (a : Int) ^^^ BitVec.ofInt 64 (b : Int)).toNat = a ^^^ b := by rw [BitVec.toNat_xor, ofInt_u64 a (by omega), ofInt_u64 b (by omega)]
  show IntKind.u64.wrap ((BitVec.ofInt 64 (a : Int) ^^^ BitVec.ofInt 64 (b : Int)).toNat : Int) = _
  rw [e]
  exact wrap_in (k := .u64) ⟨by simp only [lo]; omega, by simp only [hi]; omega⟩
theorem lz_iff {a b k : Nat} (ha : a < 2 ^ 64) (hb : b < 2 ^ 64) (hk : k ≤ 64) : (k : Int) ≤ lzX a b ↔ (toB 64 a).take k = (toB 64 b).take k := by
  unfold lzX
  rw [u64_xor_nat a b ha hb, show (((a ^^^ b : Nat) : Int)).toNat = a ^^^ b from rfl]
  have h1 : (k : Int) ≤ 64 - (bl (a ^^^ b) : Int) ↔ bl (a ^^^ b) ≤ 64 - k := by omega
  rw [h1, bl_le]
  have tk : ∀ x : Nat, (toB 64 x).take k = toB k (x / 2 ^ (64 - k)) := fun x => by
    have : 64 = k + (64 - k) := by omega
    conv => lhs; rw [this, toB_split]
    rw [List.take_left' (toB_length _ _)]
  rw [tk, tk]
  have hp : 0 < 2 ^ (64 - k) := Nat.pow_pos (by omega)
  have lt : ∀ x, x < 2 ^ 64 → x / 2 ^ (64 - k) < 2 ^ k := fun x hx => by
    rw [Nat.div_lt_iff_lt_mul hp, ← Nat.pow_add, show k + (64 - k) = 64 by omega]; exact hx
  have hdiv : (a ^^^ b) / 2 ^ (64 - k) = (a / 2 ^ (64 - k)) ^^^ (b / 2 ^ (64 - k)) := by
    rw [← Nat.shiftRight_eq_div_pow, ← Nat.shiftRight_eq_div_pow, ← Nat.shiftRight_eq_div_pow, Nat.shiftRight_xor_distrib]
  constructor
  · intro h
    have h0 : (a ^^^ b) / 2 ^ (64 - k) = 0 := Nat.div_eq_of_lt h
    rw [hdiv] at h0
    have e : a / 2 ^ (64 - k) = b / 2 ^ (64 - k) := by
      have := congrArg (fun t => (a / 2 ^ (64 - k)) ^^^ t) h0
      simp only [← Nat.xor_assoc, Nat.xor_self, Nat.zero_xor, Nat.xor_zero] at this
      exact this.symm
    rw [e]
  · intro h
    have := toB_inj (lt a ha) (lt b hb) h
    have h0 : (a ^^^ b) / 2 ^ (64 - k) = 0 := by rw [hdiv, this, Nat.xor_self]
    rcases Nat.div_eq_zero_iff.1 h0 with k | k
    · omega
    · exact k
theorem can_words (a : Ad) : ∃ x y : Nat, (canA a).1 = x ∧ (canA a).2.1 = y ∧ x < 2 ^ 64 ∧ y < 2 ^ 64 ∧ toB 64 x ++ toB 64 y = padr 128 (bitsA a) := by
  have hl : (bitsA a).length ≤ 128 := by rw [bitsA_length]; exact wd_le _
  have hw := wfA_ofB a.2.2 hl
  have e := words_ofB a.2.2 hl
  refine ⟨(canA a).1.toNat, (canA a).2.1.toNat, ?_, ?_, ?_, ?_, e⟩
  · have := hw.1; unfold wfW at this; unfold canA; omega
  · have := hw.2; unfold wfW at this; unfold canA; omega
  · have := hw.1; unfold wfW at this; unfold canA; omega
  · have := hw.2; unfold wfW at this; unfold canA; omega
theorem common_iff {a b : Ad} (h6 : a.2.2 = b.2.2) {k : Nat} (hk : k ≤ wd a.2.2) : (k : Int) ≤ commonI a b ↔ (bitsA a).take k = (bitsA b).take k := by
  obtain ⟨x, y, hx, hy, x1, y1, ea⟩ := can_words a
  obtain ⟨u, v, hu, hv, u1, v1, eb⟩ := can_words b
  have hwd := wd_le a.2.2
  have la : (bitsA a).length = wd a.2.2 := bitsA_length a
  have lb : (bitsA b).length = wd a.2.2 := by rw [bitsA_length, h6]
  have pt : ∀ l : List Bool, l.length = wd a.2.2 → (padr 128 l).take k = l.take k := fun l hl => by
    unfold padr
    rw [List.take_append_of_le_length (by omega)]
  have l64 : ∀ n : Nat, (toB 64 n).length = 64 := fun n => toB_length _ _
  rw [← pt _ la, ← pt _ lb, ← ea, ← eb]
  unfold commonI
  rw [if_pos h6, hx, hy, hu, hv]
  have z1 := lz_iff (k := 64) x1 u1 (Nat.le_refl _)
  have top : lzX x u ≤ 64 := by unfold lzX; omega
  have top2 : lzX y v ≤ 64 := by unfold lzX; omega
  have t64 : ∀ n : Nat, (toB 64 n).take 64 = toB 64 n := fun n => List.take_of_length_le (by rw [l64]; exact Nat.le_refl _)
  rw [t64, t64] at z1
  by_cases hk64 : k ≤ 64
  · rw [List.take_append_of_le_length (by rw [l64]; exact hk64), List.take_append_of_le_length (by rw [l64]; exact hk64), ← lz_iff x1 u1 hk64]
    have : 0 ≤ lzX y v := by
      have := bl_64 (x := bits .xor .u64 y v) (by have := bits_range .xor .u64 y v; exact ⟨this.1, by have := this.2; simp only [hi] at this; omega⟩)
      unfold lzX; omega
    split <;> omega
  · obtain ⟨j, rfl⟩ : ∃ j, k = 64 + j := ⟨k - 64, by omega⟩
    have sp : ∀ m n : Nat, (toB 64 m ++ toB 64 n).take (64 + j) = toB 64 m ++ (toB 64 n).take j := fun m n => by
      rw [List.take_append, l64, show 64 + j - 64 = j by omega, List.take_of_length_le (by rw [l64]; omega)]
    rw [sp, sp]
    constructor
    · intro h
      have hz : lzX x u = 64 := by
        split at h <;> omega
      rw [if_pos hz] at h
      rw [z1.1 (by omega), (lz_iff (k := j) y1 v1 (by omega)).1 (by omega)]
    · intro h
      obtain ⟨h1, h2⟩ := List.append_inj h (by rw [l64, l64])
      have q1 := z1.2 h1
      have q2 := (lz_iff (k := j) y1 v1 (by omega)).2 h2
      rw [if_pos (by omega)]
      omega
theorem apart_common {p q : Pf} (hp : saneP p = true) (hq : saneP q = true) (h6 : p.2.2.1 = q.2.2.1) : decide (commonI (pA p) (pA q) < min p.2.2.2 q.2.2.2) = (!coversP p q && !coversP q p) := by
  obtain ⟨p1, p2⟩ := bitsP_length hp
  obtain ⟨q1, q2⟩ := bitsP_length hq
  have h6' : (pA p).2.2 = (pA q).2.2 := h6
  have key := common_iff h6' (k := (min p.2.2.2 q.2.2.2).toNat) (by show _ ≤ wd p.2.2.1; omega)
  have e1 : (((min p.2.2.2 q.2.2.2).toNat : Nat) : Int) = min p.2.2.2 q.2.2.2 := by omega
  rw [e1] at key
  have tp : (bitsA (pA p)).take (min p.2.2.2 q.2.2.2).toNat = (bitsP p).take (min p.2.2.2 q.2.2.2).toNat := by unfold bitsP; rw [List.take_take]; congr 1; omega
  have tq : (bitsA (pA q)).take (min p.2.2.2 q.2.2.2).toNat = (bitsP q).take (min p.2.2.2 q.2.2.2).toNat := by unfold bitsP; rw [List.take_take]; congr 1; omega
  rw [tp, tq] at key
  rw [Bool.eq_iff_iff, decide_eq_true_eq, Bool.and_eq_true, Bool.not_eq_true', Bool.not_eq_true', ← Bool.not_eq_true, ← Bool.not_eq_true, covers_iff, covers_iff]
  have hlt : commonI (pA p) (pA q) < min p.2.2.2 q.2.2.2 ↔ ¬ min p.2.2.2 q.2.2.2 ≤ commonI (pA p) (pA q) := by omega
  rw [hlt, key]
  rcases Int.le_total p.2.2.2 q.2.2.2 with hle | hle
  · have em : (min p.2.2.2 q.2.2.2).toNat = (bitsP p).length := by omega
    rw [em, List.take_length]
    constructor
    · intro h
      refine ⟨fun k => h (List.prefix_iff_eq_take.1 k.2.2.2), fun k => h ?_⟩
      have hl := k.2.2.2.length_le
      have e : bitsP q = bitsP p := k.2.2.2.eq_of_length (by omega)
      rw [e, List.take_length]
    · rintro ⟨h, _⟩ k
      exact h ⟨hp, hq, h6, List.prefix_iff_eq_take.2 k⟩
  · have em : (min p.2.2.2 q.2.2.2).toNat = (bitsP q).length := by omega
    rw [em, List.take_length]
    constructor
    · intro h
      refine ⟨fun k => h ?_, fun k => h (List.prefix_iff_eq_take.1 k.2.2.2).symm⟩
      have hl := k.2.2.2.length_le
      have e : bitsP p = bitsP q := k.2.2.2.eq_of_length (by omega)
      rw [e, List.take_length]
    · rintro ⟨_, h⟩ k
      exact h ⟨hq, hp, h6.symm, List.prefix_iff_eq_take.2 k.symm⟩
theorem p_aapart : T_aapart := by
  rintro ⟨p, q⟩ ⟨hp, hq⟩
  dsimp only at hp hq ⊢
  refine ⟨p, rfl, rfl, rfl, rfl, hp, fun _ _ => ifB_b (fun sp => ⟨q, rfl, rfl, rfl, rfl, hq, fun _ _ => ifB_b (fun sq => ifB_nd (fun h6 => ⟨(), trivial, ?_, trivial⟩) fun h6 => ⟨(pA p, pA q), rfl, rfl, rfl, rfl, rfl, rfl, ⟨hp, hq⟩, fun _ _ => ⟨(), trivial, ?_, trivial⟩⟩) fun sq => ⟨(), trivial, ?_, trivial⟩⟩) fun sp => ⟨(), trivial, ?_, trivial⟩⟩
  · unfold apartP
    rw [sp, sq]
    have c1 : coversP p q = false := by
      cases h : coversP p q with
      | false => rfl
      | true => exact absurd (covers_iff.1 h).2.2.1 h6
    have c2 : coversP q p = false := by
      cases h : coversP q p with
      | false => rfl
      | true => exact absurd (covers_iff.1 h).2.2.1.symm h6
    rw [c1, c2]
    rfl
  · unfold apartP
    rw [sp, sq, Bool.true_and, Bool.true_and]
    exact apart_common sp sq h6
  · unfold apartP; rw [sp, sq]; rfl
  · unfold apartP; rw [sp]; rfl
theorem GA0 : Goods Tryz.prog A0 := goods_cons (good_of_owes hM hP GP1 Tryz.func243 rfl (o_alen ▸ p_alen)) GP1
theorem GA1 : Goods Tryz.prog A1 := goods_cons (good_of_owes hM hP GA0 Tryz.func181 rfl (o_alz ▸ p_alz)) GA0
theorem GA2 : Goods Tryz.prog A2 := goods_cons (good_of_owes hM hP GA1 Tryz.func102 rfl (o_acommon ▸ p_acommon)) GA1
theorem g_apart : Good Tryz.prog 36 ApartZ := good_of_owes hM hP GA2 Tryz.func36 rfl (o_aapart ▸ p_aapart)
end Sp
end
section
set_option linter.all false
namespace Sp
open Go Go.Proofs Sx Go.Proofs.YthnhbnakpmkppaaGreat.Ma
@[reducible] def acK : List Kd := [.i .i64, .i .u64, .i .u64, .b, .i .i64, .i .i64]
@[reducible] def acV (o : Ac) : List A := .l (.i .i64 o.1) :: rtV o.2
def PrefsS : Con := .look (List Pf × List Pf) (fun x => [.one (.f 0 x.1.length), .one (.f 1 x.2.length)]) (fun x => [.row false pfK x.1, .row false pfK x.2]) (fun x => x.1.length ≤ 1000000000 ∧ x.2.length ≤ 1000000000) fun x => .b (decide (x.1 = x.2))
def HasS : Con := .look (List Rt × Rt) (fun x => [.one (.f 0 x.1.length), .agg (rtV x.2)]) (fun x => [.row false rtK x.1]) (fun x => x.1.length ≤ 1000000000) fun x => .b (decide (x.2 ∈ x.1))
def DoL : Con := { X := Tb × Ac, args := fun x => [.one (.p 0 0), .agg (acV x.2)], heap := fun x => [tbP.ob x.1], pre := fun x => wfR x.2.2 ∧ x.1.small, outs := [{ Y := Unit, post := fun _ _ => True, res := fun x _ => .v (.agg [.l (.b (x.1.act x.2).2.1), .f 1 (x.1.act x.2).2.2.1.length, .f 2 (x.1.act x.2).2.2.2.length]), out := fun x _ => [(0, tbP.ob (x.1.act x.2).1), (1, .row true rtK (x.1.act x.2).2.2.1), (2, .row true rtK (x.1.act x.2).2.2.2)], nn := 2 }] }
def Awake13Z : Con := .pure Unit (fun _ => []) (fun _ => True) fun _ => .b true
def TL0 : List (Nat × Con) := (36, ApartZ) :: (76, FromS) :: TB
def TL1 : List (Nat × Con) := (23, DoL) :: (20, Awake13Z) :: (31, SameS) :: (32, PrefsS) :: (35, HasS) :: TL0
@[reducible] def wfAcs (l : List Ac) : Prop := ∀ o ∈ l, wfR o.2
def GoesL : Con := .look (Int × Int × List Ac) (fun x => [.i .i64 x.1, .i .i64 x.2.1, .one (.f 0 x.2.2.length)]) (fun x => [.row false acK x.2.2]) (fun x => wfAcs x.2.2) fun _ => .b true
def FlushL : Con := .look (Int × Int × List Ac × Pf) (fun x => [.i .i64 x.1, .i .i64 x.2.1, .one (.f 0 x.2.2.1.length), .agg (pfV x.2.2.2)]) (fun x => [.row false acK x.2.2.1]) (fun x => wfAcs x.2.2.1 ∧ wfP x.2.2.2) fun _ => .b true
def VictimL13 : Con := .look (Int × List Ac × Rt) (fun x => [.i .i64 x.1, .one (.f 0 x.2.1.length), .agg (rtV x.2.2)]) (fun x => [.row false acK x.2.1]) (fun x => wfAcs x.2.1 ∧ wfR x.2.2) fun _ => .b true
def LqL13 : FuncId → Nat → Lan
  | 32, _ => .inv { X := Int, slots := [5], vals := fun x => [.i .i64 x], fix := [], new := [], drop := [], obs := fun x => [] }
  | 20, _ => .unroll 4
  | 35, _ => .inv { X := Int, slots := [5], vals := fun x => [.i .i64 x], fix := [], new := [], drop := [], obs := fun x => [] }
  | 5, 0 => .inv { X := Int × Tb, slots := [9], vals := fun x => [.i .i64 x.1], fix := [2], new := [], drop := [], obs := fun x => [tbP.ob x.2] }
  | 5, _ => .inv { X := Int × Int, slots := [13, 14], vals := fun x => [.i .i64 x.1, .i .i64 x.2], fix := [], new := [], drop := [], obs := fun x => [] }
  | 6, 0 => .inv { X := Int × Tb, slots := [11], vals := fun x => [.i .i64 x.1], fix := [3], new := [], drop := [], obs := fun x => [tbP.ob x.2] }
  | 6, 2 => .inv { X := Int × List Rt × List Rt, slots := [17, 15, 16], vals := fun x => [.i .i64 x.1, .a (.f 40 x.2.1.length), .a (.f 41 x.2.2.length)], fix := [], new := [40, 41], drop := [], obs := fun x => [.row true rtK x.2.1, .row true rtK x.2.2] }
  | 6, _ => .inv { X := Int × List Pf, slots := [19, 18], vals := fun x => [.i .i64 x.1, .a (.f 60 x.2.length)], fix := [], new := [60], drop := [], obs := fun x => [.row true pfK x.2] }
  | _, _ => .none
end Sp
end
