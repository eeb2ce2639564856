import Derived.ProofKit
import Derived.Test.YthnhbnakpmkppaaGreatMgTableGoes7
section
set_option linter.all false
set_option maxRecDepth 100000
namespace Sp
open Go Go.Proofs Sx
@[reducible] def H_SpPt_1 (v1 : Ad × Int × Int) (v2 : Int × Int × Bool) : Prop :=
 ifB (decide (v1.2.1 / (64 : Int) = (1 : Int))) (∃ (b1 : Unit), True /\ (canA v2).1 = (ofB v1.1.2.2 ((bitsA v1.1).set v1.2.1.toNat (oddZ v1.2.2))).1 /\ bits BinOp.or IntKind.u64 (canA v2).1 ((1 : Int)
 * (2 : Int) ^ min (((63 : Int) - v1.2.1 % (64 : Int)) % (18446744073709551616 : Int)).toNat (64 : Nat) % (18446744073709551616 : Int)) = (ofB v1.1.2.2 ((bitsA v1.1).set v1.2.1.toNat (oddZ
 v1.2.2))).2.1 /\ v1.1.2.2 = (ofB v1.1.2.2 ((bitsA v1.1).set v1.2.1.toNat (oddZ v1.2.2))).2.2 /\ True) False
@[reducible] def H_SpPt_2 (v1 : Int × Int × Bool) (v2 : Ad × Int × Int) : Prop :=
 ∃ (b1 : Unit), True /\ bits BinOp.or IntKind.u64 (canA v1).2.1 ((1 : Int) * (2 : Int) ^ min (((63 : Int) - v2.2.1 % (64 : Int)) % (18446744073709551616 : Int)).toNat (64 : Nat) % (18446744073709551616
 : Int)) = (ofB v2.1.2.2 ((bitsA v2.1).set v2.2.1.toNat (oddZ v2.2.2))).1 /\ (canA v1).2.1 = (ofB v2.1.2.2 ((bitsA v2.1).set v2.2.1.toNat (oddZ v2.2.2))).2.1 /\ v2.1.2.2 = (ofB v2.1.2.2 ((bitsA
 v2.1).set v2.2.1.toNat (oddZ v2.2.2))).2.2 /\ True
@[reducible] def H_SpPt_3 (v1 : Int × Int × Bool) (v2 : Ad × Int × Int) : Prop :=
 ∃ (b1 : Unit), True /\ (canA v1).1 = (ofB v2.1.2.2 ((bitsA v2.1).set v2.2.1.toNat (oddZ v2.2.2))).1 /\ (canA v1).2.1 = (ofB v2.1.2.2 ((bitsA v2.1).set v2.2.1.toNat (oddZ v2.2.2))).2.1 /\ v2.1.2.2 =
 (ofB v2.1.2.2 ((bitsA v2.1).set v2.2.1.toNat (oddZ v2.2.2))).2.2 /\ True
@[reducible] def H_SpPt_4 (v1 : Pf × Int) : Prop :=
 ∃ (b1 : Unit), True /\ (0 : Int) = (childR v1.1 v1.2).1.1 /\ (0 : Int) = (childR v1.1 v1.2).1.2.1 /\ false = (childR v1.1 v1.2).1.2.2.1 /\ (0 : Int) = (childR v1.1 v1.2).1.2.2.2 /\ false = (childR
 v1.1 v1.2).2 /\ True
@[reducible] def H_SpPt_5 (v1 : Int × Int × Bool × Int) : Prop :=
 ∃ (b1 : Unit), True /\ (0 : Int) = (parentR v1).1.1 /\ (0 : Int) = (parentR v1).1.2.1 /\ false = (parentR v1).1.2.2.1 /\ (0 : Int) = (parentR v1).1.2.2.2 /\ false = (parentR v1).2 /\ True
@[reducible] def H_SpPt_6 (v1 : Pf × Ad) : Prop :=
 ((0 : Int) <= (pA v1.1).1 /\ (pA v1.1).1 < (18446744073709551616 : Int)) /\ (0 : Int) <= (pA v1.1).2.1 /\ (pA v1.1).2.1 < (18446744073709551616 : Int)
@[reducible] def H_SpPt_7 (v1 : Pf × Int) : Prop :=
 ((0 : Int) <= (pA v1.1).1 /\ (pA v1.1).1 < (18446744073709551616 : Int)) /\ (0 : Int) <= (pA v1.1).2.1 /\ (pA v1.1).2.1 < (18446744073709551616 : Int)
def T_pbit  : Prop :=
 ∀ (x : Ad × Int), (((0 : Int) <= x.1.1 /\ x.1.1 < (18446744073709551616 : Int)) /\ (0 : Int) <= x.1.2.1 /\ x.1.2.1 < (18446744073709551616 : Int)) /\ (0 : Int) <= x.2 /\ x.2 < (↑(wd x.1.2.2) : Int) ->
 ifB (decide ((0 : Int) <= x.2)) (∃ (x_1 : Bool), x.1.2.2 = x_1 /\ True /\ ∀ (y : Unit), True -> ifB (!decide (x.2 < (↑(wd x_1) : Int))) (∃ (y : Unit), True /\ (0 : Int) = bitW x.1 x.2.toNat /\ True)
 (∃ (x_2 : Int × Int × Bool), x.1.1 = x_2.1 /\ x.1.2.1 = x_2.2.1 /\ x.1.2.2 = x_2.2.2 /\ (((0 : Int) <= x_2.1 /\ x_2.1 < (18446744073709551616 : Int)) /\ (0 : Int) <= x_2.2.1 /\ x_2.2.1 <
 (18446744073709551616 : Int)) /\ ∀ (y : Unit), True -> ((0 : Int) <= x.2 /\ (0 : Int) < (64 : Int)) /\ ifB (decide (x.2 / (64 : Int) = (0 : Int))) (((0 : Int) <= x.2 /\ (0 : Int) < (64 : Int)) /\
 ((-9223372036854775808 : Int) <= (63 : Int) - x.2 % (64 : Int) /\ (63 : Int) - x.2 % (64 : Int) <= (9223372036854775807 : Int)) /\ (0 : Int) <= ((63 : Int) - x.2 % (64 : Int)) % (18446744073709551616
 : Int) /\ ((-9223372036854775808 : Int) <= bits BinOp.and IntKind.u64 ((canA x_2).1 / (2 : Int) ^ min (((63 : Int) - x.2 % (64 : Int)) % (18446744073709551616 : Int)).toNat (64 : Nat)) (1 : Int) /\
 bits BinOp.and IntKind.u64 ((canA x_2).1 / (2 : Int) ^ min (((63 : Int) - x.2 % (64 : Int)) % (18446744073709551616 : Int)).toNat (64 : Nat)) (1 : Int) <= (9223372036854775807 : Int)) /\ ∃ (y : Unit),
 True /\ bits BinOp.and IntKind.u64 ((canA x_2).1 / (2 : Int) ^ min (((63 : Int) - x.2 % (64 : Int)) % (18446744073709551616 : Int)).toNat (64 : Nat)) (1 : Int) = bitW x.1 x.2.toNat /\ True) (ifB
 (decide (x.2 / (64 : Int) = (1 : Int))) (((0 : Int) <= x.2 /\ (0 : Int) < (64 : Int)) /\ ((-9223372036854775808 : Int) <= (63 : Int) - x.2 % (64 : Int) /\ (63 : Int) - x.2 % (64 : Int) <=
 (9223372036854775807 : Int)) /\ (0 : Int) <= ((63 : Int) - x.2 % (64 : Int)) % (18446744073709551616 : Int) /\ ((-9223372036854775808 : Int) <= bits BinOp.and IntKind.u64 ((canA x_2).2.1 / (2 : Int) ^
 min (((63 : Int) - x.2 % (64 : Int)) % (18446744073709551616 : Int)).toNat (64 : Nat)) (1 : Int) /\ bits BinOp.and IntKind.u64 ((canA x_2).2.1 / (2 : Int) ^ min (((63 : Int) - x.2 % (64 : Int)) %
 (18446744073709551616 : Int)).toNat (64 : Nat)) (1 : Int) <= (9223372036854775807 : Int)) /\ ∃ (y : Unit), True /\ bits BinOp.and IntKind.u64 ((canA x_2).2.1 / (2 : Int) ^ min (((63 : Int) - x.2 % (64
 : Int)) % (18446744073709551616 : Int)).toNat (64 : Nat)) (1 : Int) = bitW x.1 x.2.toNat /\ True) False))) (∃ (y : Unit), True /\ (0 : Int) = bitW x.1 x.2.toNat /\ True)
def T_pset  : Prop :=
 ∀ (x : Ad × Int × Int), (((0 : Int) <= x.1.1 /\ x.1.1 < (18446744073709551616 : Int)) /\ (0 : Int) <= x.1.2.1 /\ x.1.2.1 < (18446744073709551616 : Int)) /\ (0 : Int) <= x.2.1 /\ x.2.1 < (↑(wd x.1.2.2)
 : Int) /\ (0 : Int) <= x.2.2 /\ x.2.2 <= (2 : Int) -> ∃ (x_1 : Int × Int × Bool), x.1.1 = x_1.1 /\ x.1.2.1 = x_1.2.1 /\ x.1.2.2 = x_1.2.2 /\ (((0 : Int) <= x_1.1 /\ x_1.1 < (18446744073709551616 :
 Int)) /\ (0 : Int) <= x_1.2.1 /\ x_1.2.1 < (18446744073709551616 : Int)) /\ ∀ (y : Unit), True -> ifB (decide ((0 : Int) <= x.2.1)) (∃ (x_2 : Bool), x.1.2.2 = x_2 /\ True /\ ∀ (y : Unit), True -> ifB
 (decide (x.2.1 < (↑(wd x_2) : Int))) (((0 : Int) <= x.2.1 /\ (0 : Int) < (64 : Int)) /\ ((-9223372036854775808 : Int) <= (63 : Int) - x.2.1 % (64 : Int) /\ (63 : Int) - x.2.1 % (64 : Int) <=
 (9223372036854775807 : Int)) /\ (0 : Int) <= ((63 : Int) - x.2.1 % (64 : Int)) % (18446744073709551616 : Int) /\ ((0 : Int) <= x.2.1 /\ (0 : Int) < (64 : Int)) /\ ifB (decide (x.2.1 / (64 : Int) = (0
 : Int))) (ifB (decide (x.2.1 / (64 : Int) = (0 : Int))) (ifB (decide (bits BinOp.and IntKind.i64 x.2.2 (1 : Int) = (1 : Int))) (((0 : Int) <= x.2.1 /\ (0 : Int) < (64 : Int)) /\ ifB (decide (x.2.1 /
 (64 : Int) = (0 : Int))) (ifB (decide (x.2.1 / (64 : Int) = (0 : Int))) (∃ (y : Unit), True /\ bits BinOp.or IntKind.u64 (bits BinOp.andNot IntKind.u64 (canA x_1).1 ((1 : Int) * (2 : Int) ^ min (((63
 : Int) - x.2.1 % (64 : Int)) % (18446744073709551616 : Int)).toNat (64 : Nat) % (18446744073709551616 : Int))) ((1 : Int) * (2 : Int) ^ min (((63 : Int) - x.2.1 % (64 : Int)) % (18446744073709551616 :
 Int)).toNat (64 : Nat) % (18446744073709551616 : Int)) = (ofB x.1.2.2 ((bitsA x.1).set x.2.1.toNat (oddZ x.2.2))).1 /\ (canA x_1).2.1 = (ofB x.1.2.2 ((bitsA x.1).set x.2.1.toNat (oddZ x.2.2))).2.1 /\
 x.1.2.2 = (ofB x.1.2.2 ((bitsA x.1).set x.2.1.toNat (oddZ x.2.2))).2.2 /\ True) (ifB (decide (x.2.1 / (64 : Int) = (1 : Int))) (∃ (y : Unit), True /\ bits BinOp.andNot IntKind.u64 (canA x_1).1 ((1 :
 Int) * (2 : Int) ^ min (((63 : Int) - x.2.1 % (64 : Int)) % (18446744073709551616 : Int)).toNat (64 : Nat) % (18446744073709551616 : Int)) = (ofB x.1.2.2 ((bitsA x.1).set x.2.1.toNat (oddZ x.2.2))).1
 /\ bits BinOp.or IntKind.u64 (bits BinOp.andNot IntKind.u64 (canA x_1).1 ((1 : Int) * (2 : Int) ^ min (((63 : Int) - x.2.1 % (64 : Int)) % (18446744073709551616 : Int)).toNat (64 : Nat) %
 (18446744073709551616 : Int))) ((1 : Int) * (2 : Int) ^ min (((63 : Int) - x.2.1 % (64 : Int)) % (18446744073709551616 : Int)).toNat (64 : Nat) % (18446744073709551616 : Int)) = (ofB x.1.2.2 ((bitsA
 x.1).set x.2.1.toNat (oddZ x.2.2))).2.1 /\ x.1.2.2 = (ofB x.1.2.2 ((bitsA x.1).set x.2.1.toNat (oddZ x.2.2))).2.2 /\ True) False)) (ifB (decide (x.2.1 / (64 : Int) = (1 : Int))) (ifB (decide (x.2.1 /
 (64 : Int) = (0 : Int))) (H_SpPt_2 x_1 x) (ifB (decide (x.2.1 / (64 : Int) = (1 : Int))) (∃ (y : Unit), True /\ bits BinOp.andNot IntKind.u64 (canA x_1).1 ((1 : Int) * (2 : Int) ^ min (((63 : Int) -
 x.2.1 % (64 : Int)) % (18446744073709551616 : Int)).toNat (64 : Nat) % (18446744073709551616 : Int)) = (ofB x.1.2.2 ((bitsA x.1).set x.2.1.toNat (oddZ x.2.2))).1 /\ bits BinOp.or IntKind.u64 (canA
 x_1).2.1 ((1 : Int) * (2 : Int) ^ min (((63 : Int) - x.2.1 % (64 : Int)) % (18446744073709551616 : Int)).toNat (64 : Nat) % (18446744073709551616 : Int)) = (ofB x.1.2.2 ((bitsA x.1).set x.2.1.toNat
 (oddZ x.2.2))).2.1 /\ x.1.2.2 = (ofB x.1.2.2 ((bitsA x.1).set x.2.1.toNat (oddZ x.2.2))).2.2 /\ True) False)) False)) (∃ (y : Unit), True /\ bits BinOp.andNot IntKind.u64 (canA x_1).1 ((1 : Int) * (2
 : Int) ^ min (((63 : Int) - x.2.1 % (64 : Int)) % (18446744073709551616 : Int)).toNat (64 : Nat) % (18446744073709551616 : Int)) = (ofB x.1.2.2 ((bitsA x.1).set x.2.1.toNat (oddZ x.2.2))).1 /\ (canA
 x_1).2.1 = (ofB x.1.2.2 ((bitsA x.1).set x.2.1.toNat (oddZ x.2.2))).2.1 /\ x.1.2.2 = (ofB x.1.2.2 ((bitsA x.1).set x.2.1.toNat (oddZ x.2.2))).2.2 /\ True)) (ifB (decide (x.2.1 / (64 : Int) = (1 :
 Int))) (ifB (decide (bits BinOp.and IntKind.i64 x.2.2 (1 : Int) = (1 : Int))) (((0 : Int) <= x.2.1 /\ (0 : Int) < (64 : Int)) /\ ifB (decide (x.2.1 / (64 : Int) = (0 : Int))) (ifB (decide (x.2.1 / (64
 : Int) = (0 : Int))) (∃ (y : Unit), True /\ bits BinOp.or IntKind.u64 (canA x_1).1 ((1 : Int) * (2 : Int) ^ min (((63 : Int) - x.2.1 % (64 : Int)) % (18446744073709551616 : Int)).toNat (64 : Nat) %
 (18446744073709551616 : Int)) = (ofB x.1.2.2 ((bitsA x.1).set x.2.1.toNat (oddZ x.2.2))).1 /\ bits BinOp.andNot IntKind.u64 (canA x_1).1 ((1 : Int) * (2 : Int) ^ min (((63 : Int) - x.2.1 % (64 : Int))
 % (18446744073709551616 : Int)).toNat (64 : Nat) % (18446744073709551616 : Int)) = (ofB x.1.2.2 ((bitsA x.1).set x.2.1.toNat (oddZ x.2.2))).2.1 /\ x.1.2.2 = (ofB x.1.2.2 ((bitsA x.1).set x.2.1.toNat
 (oddZ x.2.2))).2.2 /\ True) (H_SpPt_1 x x_1)) (ifB (decide (x.2.1 / (64 : Int) = (1 : Int))) (ifB (decide (x.2.1 / (64 : Int) = (0 : Int))) (∃ (y : Unit), True /\ bits BinOp.or IntKind.u64 (bits
 BinOp.andNot IntKind.u64 (canA x_1).1 ((1 : Int) * (2 : Int) ^ min (((63 : Int) - x.2.1 % (64 : Int)) % (18446744073709551616 : Int)).toNat (64 : Nat) % (18446744073709551616 : Int))) ((1 : Int) * (2
 : Int) ^ min (((63 : Int) - x.2.1 % (64 : Int)) % (18446744073709551616 : Int)).toNat (64 : Nat) % (18446744073709551616 : Int)) = (ofB x.1.2.2 ((bitsA x.1).set x.2.1.toNat (oddZ x.2.2))).1 /\ bits
 BinOp.andNot IntKind.u64 (canA x_1).1 ((1 : Int) * (2 : Int) ^ min (((63 : Int) - x.2.1 % (64 : Int)) % (18446744073709551616 : Int)).toNat (64 : Nat) % (18446744073709551616 : Int)) = (ofB x.1.2.2
 ((bitsA x.1).set x.2.1.toNat (oddZ x.2.2))).2.1 /\ x.1.2.2 = (ofB x.1.2.2 ((bitsA x.1).set x.2.1.toNat (oddZ x.2.2))).2.2 /\ True) (ifB (decide (x.2.1 / (64 : Int) = (1 : Int))) (∃ (y : Unit), True /\
 (canA x_1).1 = (ofB x.1.2.2 ((bitsA x.1).set x.2.1.toNat (oddZ x.2.2))).1 /\ bits BinOp.or IntKind.u64 (bits BinOp.andNot IntKind.u64 (canA x_1).1 ((1 : Int) * (2 : Int) ^ min (((63 : Int) - x.2.1 %
 (64 : Int)) % (18446744073709551616 : Int)).toNat (64 : Nat) % (18446744073709551616 : Int))) ((1 : Int) * (2 : Int) ^ min (((63 : Int) - x.2.1 % (64 : Int)) % (18446744073709551616 : Int)).toNat (64
 : Nat) % (18446744073709551616 : Int)) = (ofB x.1.2.2 ((bitsA x.1).set x.2.1.toNat (oddZ x.2.2))).2.1 /\ x.1.2.2 = (ofB x.1.2.2 ((bitsA x.1).set x.2.1.toNat (oddZ x.2.2))).2.2 /\ True) False)) False))
 (∃ (y : Unit), True /\ (canA x_1).1 = (ofB x.1.2.2 ((bitsA x.1).set x.2.1.toNat (oddZ x.2.2))).1 /\ bits BinOp.andNot IntKind.u64 (canA x_1).1 ((1 : Int) * (2 : Int) ^ min (((63 : Int) - x.2.1 % (64 :
 Int)) % (18446744073709551616 : Int)).toNat (64 : Nat) % (18446744073709551616 : Int)) = (ofB x.1.2.2 ((bitsA x.1).set x.2.1.toNat (oddZ x.2.2))).2.1 /\ x.1.2.2 = (ofB x.1.2.2 ((bitsA x.1).set
 x.2.1.toNat (oddZ x.2.2))).2.2 /\ True)) False)) (ifB (decide (x.2.1 / (64 : Int) = (1 : Int))) (ifB (decide (x.2.1 / (64 : Int) = (0 : Int))) (ifB (decide (bits BinOp.and IntKind.i64 x.2.2 (1 : Int)
 = (1 : Int))) (((0 : Int) <= x.2.1 /\ (0 : Int) < (64 : Int)) /\ ifB (decide (x.2.1 / (64 : Int) = (0 : Int))) (ifB (decide (x.2.1 / (64 : Int) = (0 : Int))) (∃ (y : Unit), True /\ bits BinOp.or
 IntKind.u64 (bits BinOp.andNot IntKind.u64 (canA x_1).2.1 ((1 : Int) * (2 : Int) ^ min (((63 : Int) - x.2.1 % (64 : Int)) % (18446744073709551616 : Int)).toNat (64 : Nat) % (18446744073709551616 :
 Int))) ((1 : Int) * (2 : Int) ^ min (((63 : Int) - x.2.1 % (64 : Int)) % (18446744073709551616 : Int)).toNat (64 : Nat) % (18446744073709551616 : Int)) = (ofB x.1.2.2 ((bitsA x.1).set x.2.1.toNat
 (oddZ x.2.2))).1 /\ (canA x_1).2.1 = (ofB x.1.2.2 ((bitsA x.1).set x.2.1.toNat (oddZ x.2.2))).2.1 /\ x.1.2.2 = (ofB x.1.2.2 ((bitsA x.1).set x.2.1.toNat (oddZ x.2.2))).2.2 /\ True) (ifB (decide (x.2.1
 / (64 : Int) = (1 : Int))) (∃ (y : Unit), True /\ bits BinOp.andNot IntKind.u64 (canA x_1).2.1 ((1 : Int) * (2 : Int) ^ min (((63 : Int) - x.2.1 % (64 : Int)) % (18446744073709551616 : Int)).toNat (64
 : Nat) % (18446744073709551616 : Int)) = (ofB x.1.2.2 ((bitsA x.1).set x.2.1.toNat (oddZ x.2.2))).1 /\ bits BinOp.or IntKind.u64 (bits BinOp.andNot IntKind.u64 (canA x_1).2.1 ((1 : Int) * (2 : Int) ^
 min (((63 : Int) - x.2.1 % (64 : Int)) % (18446744073709551616 : Int)).toNat (64 : Nat) % (18446744073709551616 : Int))) ((1 : Int) * (2 : Int) ^ min (((63 : Int) - x.2.1 % (64 : Int)) %
 (18446744073709551616 : Int)).toNat (64 : Nat) % (18446744073709551616 : Int)) = (ofB x.1.2.2 ((bitsA x.1).set x.2.1.toNat (oddZ x.2.2))).2.1 /\ x.1.2.2 = (ofB x.1.2.2 ((bitsA x.1).set x.2.1.toNat
 (oddZ x.2.2))).2.2 /\ True) False)) (ifB (decide (x.2.1 / (64 : Int) = (1 : Int))) (ifB (decide (x.2.1 / (64 : Int) = (0 : Int))) (H_SpPt_2 x_1 x) (ifB (decide (x.2.1 / (64 : Int) = (1 : Int))) (∃ (y
 : Unit), True /\ bits BinOp.andNot IntKind.u64 (canA x_1).2.1 ((1 : Int) * (2 : Int) ^ min (((63 : Int) - x.2.1 % (64 : Int)) % (18446744073709551616 : Int)).toNat (64 : Nat) % (18446744073709551616 :
 Int)) = (ofB x.1.2.2 ((bitsA x.1).set x.2.1.toNat (oddZ x.2.2))).1 /\ bits BinOp.or IntKind.u64 (canA x_1).2.1 ((1 : Int) * (2 : Int) ^ min (((63 : Int) - x.2.1 % (64 : Int)) % (18446744073709551616 :
 Int)).toNat (64 : Nat) % (18446744073709551616 : Int)) = (ofB x.1.2.2 ((bitsA x.1).set x.2.1.toNat (oddZ x.2.2))).2.1 /\ x.1.2.2 = (ofB x.1.2.2 ((bitsA x.1).set x.2.1.toNat (oddZ x.2.2))).2.2 /\ True)
 False)) False)) (∃ (y : Unit), True /\ bits BinOp.andNot IntKind.u64 (canA x_1).2.1 ((1 : Int) * (2 : Int) ^ min (((63 : Int) - x.2.1 % (64 : Int)) % (18446744073709551616 : Int)).toNat (64 : Nat) %
 (18446744073709551616 : Int)) = (ofB x.1.2.2 ((bitsA x.1).set x.2.1.toNat (oddZ x.2.2))).1 /\ (canA x_1).2.1 = (ofB x.1.2.2 ((bitsA x.1).set x.2.1.toNat (oddZ x.2.2))).2.1 /\ x.1.2.2 = (ofB x.1.2.2
 ((bitsA x.1).set x.2.1.toNat (oddZ x.2.2))).2.2 /\ True)) (ifB (decide (x.2.1 / (64 : Int) = (1 : Int))) (ifB (decide (bits BinOp.and IntKind.i64 x.2.2 (1 : Int) = (1 : Int))) (((0 : Int) <= x.2.1 /\
 (0 : Int) < (64 : Int)) /\ ifB (decide (x.2.1 / (64 : Int) = (0 : Int))) (ifB (decide (x.2.1 / (64 : Int) = (0 : Int))) (∃ (y : Unit), True /\ bits BinOp.or IntKind.u64 (canA x_1).1 ((1 : Int) * (2 :
 Int) ^ min (((63 : Int) - x.2.1 % (64 : Int)) % (18446744073709551616 : Int)).toNat (64 : Nat) % (18446744073709551616 : Int)) = (ofB x.1.2.2 ((bitsA x.1).set x.2.1.toNat (oddZ x.2.2))).1 /\ bits
 BinOp.andNot IntKind.u64 (canA x_1).2.1 ((1 : Int) * (2 : Int) ^ min (((63 : Int) - x.2.1 % (64 : Int)) % (18446744073709551616 : Int)).toNat (64 : Nat) % (18446744073709551616 : Int)) = (ofB x.1.2.2
 ((bitsA x.1).set x.2.1.toNat (oddZ x.2.2))).2.1 /\ x.1.2.2 = (ofB x.1.2.2 ((bitsA x.1).set x.2.1.toNat (oddZ x.2.2))).2.2 /\ True) (H_SpPt_1 x x_1)) (ifB (decide (x.2.1 / (64 : Int) = (1 : Int))) (ifB
 (decide (x.2.1 / (64 : Int) = (0 : Int))) (∃ (y : Unit), True /\ bits BinOp.or IntKind.u64 (bits BinOp.andNot IntKind.u64 (canA x_1).2.1 ((1 : Int) * (2 : Int) ^ min (((63 : Int) - x.2.1 % (64 : Int))
 % (18446744073709551616 : Int)).toNat (64 : Nat) % (18446744073709551616 : Int))) ((1 : Int) * (2 : Int) ^ min (((63 : Int) - x.2.1 % (64 : Int)) % (18446744073709551616 : Int)).toNat (64 : Nat) %
 (18446744073709551616 : Int)) = (ofB x.1.2.2 ((bitsA x.1).set x.2.1.toNat (oddZ x.2.2))).1 /\ bits BinOp.andNot IntKind.u64 (canA x_1).2.1 ((1 : Int) * (2 : Int) ^ min (((63 : Int) - x.2.1 % (64 :
 Int)) % (18446744073709551616 : Int)).toNat (64 : Nat) % (18446744073709551616 : Int)) = (ofB x.1.2.2 ((bitsA x.1).set x.2.1.toNat (oddZ x.2.2))).2.1 /\ x.1.2.2 = (ofB x.1.2.2 ((bitsA x.1).set
 x.2.1.toNat (oddZ x.2.2))).2.2 /\ True) (ifB (decide (x.2.1 / (64 : Int) = (1 : Int))) (∃ (y : Unit), True /\ (canA x_1).1 = (ofB x.1.2.2 ((bitsA x.1).set x.2.1.toNat (oddZ x.2.2))).1 /\ bits BinOp.or
 IntKind.u64 (bits BinOp.andNot IntKind.u64 (canA x_1).2.1 ((1 : Int) * (2 : Int) ^ min (((63 : Int) - x.2.1 % (64 : Int)) % (18446744073709551616 : Int)).toNat (64 : Nat) % (18446744073709551616 :
 Int))) ((1 : Int) * (2 : Int) ^ min (((63 : Int) - x.2.1 % (64 : Int)) % (18446744073709551616 : Int)).toNat (64 : Nat) % (18446744073709551616 : Int)) = (ofB x.1.2.2 ((bitsA x.1).set x.2.1.toNat
 (oddZ x.2.2))).2.1 /\ x.1.2.2 = (ofB x.1.2.2 ((bitsA x.1).set x.2.1.toNat (oddZ x.2.2))).2.2 /\ True) False)) False)) (∃ (y : Unit), True /\ (canA x_1).1 = (ofB x.1.2.2 ((bitsA x.1).set x.2.1.toNat
 (oddZ x.2.2))).1 /\ bits BinOp.andNot IntKind.u64 (canA x_1).2.1 ((1 : Int) * (2 : Int) ^ min (((63 : Int) - x.2.1 % (64 : Int)) % (18446744073709551616 : Int)).toNat (64 : Nat) %
 (18446744073709551616 : Int)) = (ofB x.1.2.2 ((bitsA x.1).set x.2.1.toNat (oddZ x.2.2))).2.1 /\ x.1.2.2 = (ofB x.1.2.2 ((bitsA x.1).set x.2.1.toNat (oddZ x.2.2))).2.2 /\ True)) False)) False))
 (H_SpPt_3 x_1 x)) (H_SpPt_3 x_1 x)
def T_pparent  : Prop :=
 ∀ (x : Int × Int × Bool × Int), ((0 : Int) <= (pA x).1 /\ (pA x).1 < (18446744073709551616 : Int)) /\ (0 : Int) <= (pA x).2.1 /\ (pA x).2.1 < (18446744073709551616 : Int) -> ifB (decide (x.2.2.2 <= (0
 : Int))) (H_SpPt_5 x) (∃ (x_1 : Int × Int × Bool × Int), x.1 = x_1.1 /\ x.2.1 = x_1.2.1 /\ x.2.2.1 = x_1.2.2.1 /\ x.2.2.2 = x_1.2.2.2 /\ (((0 : Int) <= (pA x_1).1 /\ (pA x_1).1 < (18446744073709551616
 : Int)) /\ (0 : Int) <= (pA x_1).2.1 /\ (pA x_1).2.1 < (18446744073709551616 : Int)) /\ ∀ (y : Unit), True -> ifB (!saneP x_1) (H_SpPt_5 x) (((-9223372036854775808 : Int) <= x.2.2.2 - (1 : Int) /\
 x.2.2.2 - (1 : Int) <= (9223372036854775807 : Int)) /\ ∃ (x_2 : Ad × Int), x.1 = x_2.1.1 /\ x.2.1 = x_2.1.2.1 /\ x.2.2.1 = x_2.1.2.2 /\ x.2.2.2 - (1 : Int) = x_2.2 /\ (((0 : Int) <= x_2.1.1 /\ x_2.1.1
 < (18446744073709551616 : Int)) /\ (0 : Int) <= x_2.1.2.1 /\ x_2.1.2.1 < (18446744073709551616 : Int)) /\ ∀ (y : Unit), True -> ∃ (y : Unit), True /\ (ofPf x_2.1 x_2.2).1 = (parentR x).1.1 /\ (ofPf
 x_2.1 x_2.2).2.1 = (parentR x).1.2.1 /\ (ofPf x_2.1 x_2.2).2.2.1 = (parentR x).1.2.2.1 /\ (ofPf x_2.1 x_2.2).2.2.2 = (parentR x).1.2.2.2 /\ true = (parentR x).2 /\ True))
def T_pcontains  : Prop :=
 ∀ (x : Pf × Ad), (H_SpPt_6 x) /\ ((0 : Int) <= x.2.1 /\ x.2.1 < (18446744073709551616 : Int)) /\ (0 : Int) <= x.2.2.1 /\ x.2.2.1 < (18446744073709551616 : Int) -> ∃ (x_1 : Int × Int × Bool × Int),
 x.1.1 = x_1.1 /\ x.1.2.1 = x_1.2.1 /\ x.1.2.2.1 = x_1.2.2.1 /\ x.1.2.2.2 = x_1.2.2.2 /\ (((0 : Int) <= (pA x_1).1 /\ (pA x_1).1 < (18446744073709551616 : Int)) /\ (0 : Int) <= (pA x_1).2.1 /\ (pA
 x_1).2.1 < (18446744073709551616 : Int)) /\ ∀ (y : Unit), True -> ifB (saneP x_1) (∃ (x_2 : Ad × Int), x.2.1 = x_2.1.1 /\ x.2.2.1 = x_2.1.2.1 /\ x.2.2.2 = x_2.1.2.2 /\ x.1.2.2.2 = x_2.2 /\ (((0 : Int)
 <= x_2.1.1 /\ x_2.1.1 < (18446744073709551616 : Int)) /\ (0 : Int) <= x_2.1.2.1 /\ x_2.1.2.1 < (18446744073709551616 : Int)) /\ ∀ (y : Unit), True -> ∃ (y : Unit), True /\ (decide (x.1.1 = (ofPf x_2.1
 x_2.2).1) && (decide (x.1.2.1 = (ofPf x_2.1 x_2.2).2.1) && (decide (x.1.2.2.1 = (ofPf x_2.1 x_2.2).2.2.1) && decide (x.1.2.2.2 = (ofPf x_2.1 x_2.2).2.2.2)))) = containsP x.1 x.2 /\ True) (∃ (y :
 Unit), True /\ false = containsP x.1 x.2 /\ True)
def T_pchild  : Prop :=
 ∀ (x : Pf × Int), (H_SpPt_7 x) /\ (0 : Int) <= x.2 /\ x.2 <= (2 : Int) -> ∃ (x_1 : Int × Int × Bool × Int), x.1.1 = x_1.1 /\ x.1.2.1 = x_1.2.1 /\ x.1.2.2.1 = x_1.2.2.1 /\ x.1.2.2.2 = x_1.2.2.2 /\ (((0
 : Int) <= (pA x_1).1 /\ (pA x_1).1 < (18446744073709551616 : Int)) /\ (0 : Int) <= (pA x_1).2.1 /\ (pA x_1).2.1 < (18446744073709551616 : Int)) /\ ∀ (y : Unit), True -> ifB (!saneP x_1) (H_SpPt_4 x)
 (∃ (x_2 : Bool), x.1.2.2.1 = x_2 /\ True /\ ∀ (y : Unit), True -> ifB (decide (x.1.2.2.2 = (↑(wd x_2) : Int))) (H_SpPt_4 x) (((-9223372036854775808 : Int) <= x.1.2.2.2 + (1 : Int) /\ x.1.2.2.2 + (1 :
 Int) <= (9223372036854775807 : Int)) /\ ∃ (x_3 : Ad × Int × Int), x.1.1 = x_3.1.1 /\ x.1.2.1 = x_3.1.2.1 /\ x.1.2.2.1 = x_3.1.2.2 /\ x.1.2.2.2 = x_3.2.1 /\ x.2 = x_3.2.2 /\ ((((0 : Int) <= x_3.1.1 /\
 x_3.1.1 < (18446744073709551616 : Int)) /\ (0 : Int) <= x_3.1.2.1 /\ x_3.1.2.1 < (18446744073709551616 : Int)) /\ (0 : Int) <= x_3.2.1 /\ x_3.2.1 < (↑(wd x_3.1.2.2) : Int) /\ (0 : Int) <= x_3.2.2 /\
 x_3.2.2 <= (2 : Int)) /\ ∀ (y : Unit), True -> ∃ (y : Unit), True /\ (ofB x_3.1.2.2 ((bitsA x_3.1).set x_3.2.1.toNat (oddZ x_3.2.2))).1 = (childR x.1 x.2).1.1 /\ (ofB x_3.1.2.2 ((bitsA x_3.1).set
 x_3.2.1.toNat (oddZ x_3.2.2))).2.1 = (childR x.1 x.2).1.2.1 /\ (ofB x_3.1.2.2 ((bitsA x_3.1).set x_3.2.1.toNat (oddZ x_3.2.2))).2.2 = (childR x.1 x.2).1.2.2.1 /\ x.1.2.2.2 + (1 : Int) = (childR x.1
 x.2).1.2.2.2 /\ true = (childR x.1 x.2).2 /\ True))
def T_pcovers  : Prop :=
 ∀ (x : Pf × Pf), (((0 : Int) <= (pA x.1).1 /\ (pA x.1).1 < (18446744073709551616 : Int)) /\ (0 : Int) <= (pA x.1).2.1 /\ (pA x.1).2.1 < (18446744073709551616 : Int)) /\ ((0 : Int) <= (pA x.2).1 /\ (pA
 x.2).1 < (18446744073709551616 : Int)) /\ (0 : Int) <= (pA x.2).2.1 /\ (pA x.2).2.1 < (18446744073709551616 : Int) -> ifB (decide (x.1.2.2.2 <= x.2.2.2.2)) (∃ (x_1 : Int × Int × Bool × Int), x.2.1 =
 x_1.1 /\ x.2.2.1 = x_1.2.1 /\ x.2.2.2.1 = x_1.2.2.1 /\ x.2.2.2.2 = x_1.2.2.2 /\ (((0 : Int) <= (pA x_1).1 /\ (pA x_1).1 < (18446744073709551616 : Int)) /\ (0 : Int) <= (pA x_1).2.1 /\ (pA x_1).2.1 <
 (18446744073709551616 : Int)) /\ ∀ (y : Unit), True -> ifB (saneP x_1) (∃ (x_2 : Pf × Ad), x.1.1 = x_2.1.1 /\ x.1.2.1 = x_2.1.2.1 /\ x.1.2.2.1 = x_2.1.2.2.1 /\ x.1.2.2.2 = x_2.1.2.2.2 /\ x.2.1 =
 x_2.2.1 /\ x.2.2.1 = x_2.2.2.1 /\ x.2.2.2.1 = x_2.2.2.2 /\ ((H_SpPt_6 x_2) /\ ((0 : Int) <= x_2.2.1 /\ x_2.2.1 < (18446744073709551616 : Int)) /\ (0 : Int) <= x_2.2.2.1 /\ x_2.2.2.1 <
 (18446744073709551616 : Int)) /\ ∀ (y : Unit), True -> ∃ (y : Unit), True /\ containsP x_2.1 x_2.2 = coversP x.1 x.2 /\ True) (∃ (y : Unit), True /\ false = coversP x.1 x.2 /\ True)) (∃ (y : Unit),
 True /\ false = coversP x.1 x.2 /\ True)
def T_psibling  : Prop :=
 ∀ (x : Int × Int × Bool × Int), ((0 : Int) <= (pA x).1 /\ (pA x).1 < (18446744073709551616 : Int)) /\ (0 : Int) <= (pA x).2.1 /\ (pA x).2.1 < (18446744073709551616 : Int) -> ∃ (x_1 : Int × Int × Bool
 × Int), x.1 = x_1.1 /\ x.2.1 = x_1.2.1 /\ x.2.2.1 = x_1.2.2.1 /\ x.2.2.2 = x_1.2.2.2 /\ (((0 : Int) <= (pA x_1).1 /\ (pA x_1).1 < (18446744073709551616 : Int)) /\ (0 : Int) <= (pA x_1).2.1 /\ (pA
 x_1).2.1 < (18446744073709551616 : Int)) /\ ∀ (y : Unit), True -> ifB (!(parentR x_1).2) (∃ (y : Unit), True /\ (0 : Int) = (siblingR x).1.1 /\ (0 : Int) = (siblingR x).1.2.1 /\ false = (siblingR
 x).1.2.2.1 /\ (0 : Int) = (siblingR x).1.2.2.2 /\ false = (siblingR x).2 /\ True) (∃ (x_2 : Ad × Int), x.1 = x_2.1.1 /\ x.2.1 = x_2.1.2.1 /\ x.2.2.1 = x_2.1.2.2 /\ (parentR x_1).1.2.2.2 = x_2.2 /\
 ((((0 : Int) <= x_2.1.1 /\ x_2.1.1 < (18446744073709551616 : Int)) /\ (0 : Int) <= x_2.1.2.1 /\ x_2.1.2.1 < (18446744073709551616 : Int)) /\ (0 : Int) <= x_2.2 /\ x_2.2 < (↑(wd x_2.1.2.2) : Int)) /\ ∀
 (y : Unit), True -> ((-9223372036854775808 : Int) <= bitW x_2.1 x_2.2.toNat + (1 : Int) /\ bitW x_2.1 x_2.2.toNat + (1 : Int) <= (9223372036854775807 : Int)) /\ ∃ (x_3 : Pf × Int), (parentR x_1).1.1 =
 x_3.1.1 /\ (parentR x_1).1.2.1 = x_3.1.2.1 /\ (parentR x_1).1.2.2.1 = x_3.1.2.2.1 /\ (parentR x_1).1.2.2.2 = x_3.1.2.2.2 /\ bitW x_2.1 x_2.2.toNat + (1 : Int) = x_3.2 /\ ((H_SpPt_7 x_3) /\ (0 : Int)
 <= x_3.2 /\ x_3.2 <= (2 : Int)) /\ ∀ (y : Unit), True -> ∃ (y : Unit), True /\ (childR x_3.1 x_3.2).1.1 = (siblingR x).1.1 /\ (childR x_3.1 x_3.2).1.2.1 = (siblingR x).1.2.1 /\ (childR x_3.1
 x_3.2).1.2.2.1 = (siblingR x).1.2.2.1 /\ (childR x_3.1 x_3.2).1.2.2.2 = (siblingR x).1.2.2.2 /\ (childR x_3.1 x_3.2).2 = (siblingR x).2 /\ True)
theorem o_pbit : owes Tryz.prog (tab W2) LqP 2 223 Tryz.f223 BitZ = T_pbit := by kernel_rfl
theorem o_pset : owes Tryz.prog (tab W2) LqP 2 234 Tryz.f234 SetZ = T_pset := by kernel_rfl
theorem o_pparent : owes Tryz.prog (tab W2) LqP 2 269 Tryz.f269 ParentZ = T_pparent := by kernel_rfl
theorem o_pcontains : owes Tryz.prog (tab W2) LqP 2 33 Tryz.f33 ContainsZ = T_pcontains := by kernel_rfl
theorem o_pchild : owes Tryz.prog (tab P0) LqP 2 174 Tryz.f174 ChildZ = T_pchild := by kernel_rfl
theorem o_pcovers : owes Tryz.prog (tab P0) LqP 2 264 Tryz.f264 CoversZ = T_pcovers := by kernel_rfl
theorem o_psibling : owes Tryz.prog (tab P1) LqP 2 268 Tryz.f268 SiblingZ = T_psibling := by kernel_rfl
end Sp
end
section
set_option linter.all false
set_option maxRecDepth 10000
namespace Sp
open Go Go.Proofs Sx Go.Proofs.YthnhbnakpmkppaaGreat.Ma
theorem ifB_true {x y : Prop} : ifB true x y = x := rfl
theorem ifB_false {x y : Prop} : ifB false x y = y := rfl
/-! ### one digit of a word -/
theorem clear_bit (x j : Nat) (hx : x < 18446744073709551616) (hj : j < 64) : x &&& (18446744073709551615 - 2 ^ (63 - j)) = valB ((toB 64 x).set j false) := by
  have hp : 2 ^ (63 - j) < 2 ^ 64 := Nat.pow_lt_pow_right (by omega) (by omega)
  refine toB_inj (w := 64) (Nat.lt_of_le_of_lt Nat.and_le_left (by simpa using hx)) ?_ ?_
  · have := valB_lt ((toB 64 x).set j false)
    rwa [List.length_set, toB_length] at this
  rw [toB_valB' (by rw [List.length_set, toB_length])]
  apply List.ext_getElem?
  intro i
  have e : 18446744073709551615 - 2 ^ (63 - j) = 2 ^ 64 - (2 ^ (63 - j) + 1) := by omega
  rw [toB_get, List.getElem?_set, toB_length, toB_get, Nat.testBit_and, e, Nat.testBit_two_pow_sub_succ hp, Nat.testBit_two_pow]
  by_cases h1 : i < 64
  · rw [if_pos h1, if_pos h1]
    by_cases h2 : j = i
    · subst h2
      rw [if_pos rfl, if_pos h1, show decide (63 - j = 64 - 1 - j) = true by simp]
      simp
    · rw [if_neg h2, show decide (63 - j = 64 - 1 - i) = false by simp; omega, show decide (64 - 1 - i < 64) = true by simp; omega]
      simp
  · rw [if_neg h1, if_neg (by omega), if_neg h1]
theorem set_bit (x j : Nat) (hx : x < 18446744073709551616) (hj : j < 64) : x ||| 2 ^ (63 - j) = valB ((toB 64 x).set j true) := by
  have hp : 2 ^ (63 - j) < 2 ^ 64 := Nat.pow_lt_pow_right (by omega) (by omega)
  refine toB_inj (w := 64) (Nat.or_lt_two_pow (by simpa using hx) hp) ?_ ?_
  · have := valB_lt ((toB 64 x).set j true)
    rwa [List.length_set, toB_length] at this
  rw [toB_valB' (by rw [List.length_set, toB_length])]
  apply List.ext_getElem?
  intro i
  rw [toB_get, List.getElem?_set, toB_length, toB_get, Nat.testBit_or, Nat.testBit_two_pow]
  by_cases h1 : i < 64
  · rw [if_pos h1, if_pos h1]
    by_cases h2 : j = i
    · subst h2
      rw [if_pos rfl, if_pos h1, show decide (63 - j = 64 - 1 - j) = true by simp]
      simp
    · rw [if_neg h2, show decide (63 - j = 64 - 1 - i) = false by simp; omega]
      simp
  · rw [if_neg h1, if_neg (by omega), if_neg h1]
theorem one_shift {i : Int} (h0 : 0 ≤ i) (h1 : i < 128) : (1 : Int) * 2 ^ min ((63 - i % 64) % 18446744073709551616).toNat 64 % 18446744073709551616 = ((2 ^ (63 - i.toNat % 64) : Nat) : Int) := by
  have e : min ((63 - i % 64) % 18446744073709551616).toNat 64 = 63 - i.toNat % 64 := by omega
  have hp : 2 ^ (63 - i.toNat % 64) < 2 ^ 64 := Nat.pow_lt_pow_right (by omega) (by omega)
  rw [e, Int.one_mul, show ((2 : Int) ^ (63 - i.toNat % 64)) = ((2 ^ (63 - i.toNat % 64) : Nat) : Int) by simp]
  have hp' : 2 ^ (63 - i.toNat % 64) < 18446744073709551616 := by simpa using hp
  exact Int.emod_eq_of_lt (Int.natCast_nonneg _) (Int.ofNat_lt.2 hp')
theorem valN {l : List Bool} (h : l.length = 64) : valB l < 18446744073709551616 := by
  have := valB_lt l
  rw [h] at this
  simpa using this
theorem clear_word {W : List Bool} (hW : W.length = 64) {i : Int} (h0 : 0 ≤ i) (h1 : i < 128) : bits .andNot .u64 ((valB W : Nat) : Int) ((1 : Int) * 2 ^ min ((63 - i % 64) % 18446744073709551616).toNat 64 % 18446744073709551616) = ((valB (W.set (i.toNat % 64) false) : Nat) : Int) := by
  have hp : 2 ^ (63 - i.toNat % 64) < 2 ^ 64 := Nat.pow_lt_pow_right (by omega) (by omega)
  rw [one_shift h0 h1]
  refine (u64_andNot_nat _ _ (valN hW) (by simpa using hp)).trans ?_
  rw [clear_bit _ _ (valN hW) (Nat.mod_lt _ (by omega)), toB_valB' hW]
theorem set_word {W : List Bool} (hW : W.length = 64) {i : Int} (h0 : 0 ≤ i) (h1 : i < 128) : bits .or .u64 (bits .andNot .u64 ((valB W : Nat) : Int) ((1 : Int) * 2 ^ min ((63 - i % 64) % 18446744073709551616).toNat 64 % 18446744073709551616)) ((1 : Int) * 2 ^ min ((63 - i % 64) % 18446744073709551616).toNat 64 % 18446744073709551616) = ((valB (W.set (i.toNat % 64) true) : Nat) : Int) := by
  have hp : 2 ^ (63 - i.toNat % 64) < 2 ^ 64 := Nat.pow_lt_pow_right (by omega) (by omega)
  have hl : (W.set (i.toNat % 64) false).length = 64 := by rw [List.length_set]; exact hW
  rw [clear_word hW h0 h1, one_shift h0 h1]
  refine (u64_or_nat _ _ (valN hl) (by simpa using hp)).trans ?_
  rw [set_bit _ _ (valN hl) (Nat.mod_lt _ (by omega)), toB_valB' hl, List.set_set]
/-! ### one digit of an address -/
theorem padr_set {n i : Nat} {l : List Bool} {b : Bool} (h : i < l.length) : padr n (l.set i b) = (padr n l).set i b := by
  unfold padr
  rw [List.length_set, List.set_append_left _ _ h]
theorem ofB_set_lo {v6 : Bool} {l : List Bool} {i : Nat} {b : Bool} (h : i < l.length) (h64 : i < 64) : ofB v6 (l.set i b) = (((valB ((padr 64 (l.take 64)).set i b) : Nat) : Int), (ofB v6 l).2.1, v6) := by
  unfold ofB
  have e1 : (l.set i b).take 64 = (l.take 64).set i b := List.take_set ..
  have e2 : (l.set i b).drop 64 = l.drop 64 := List.drop_set_of_lt h64
  rw [e1, e2, padr_set (by rw [List.length_take]; omega)]
theorem ofB_set_hi {v6 : Bool} {l : List Bool} {i : Nat} {b : Bool} (h : i < l.length) (h64 : 64 ≤ i) : ofB v6 (l.set i b) = ((ofB v6 l).1, ((valB ((padr 64 (l.drop 64)).set (i - 64) b) : Nat) : Int), v6) := by
  unfold ofB
  have e1 : (l.set i b).take 64 = l.take 64 := by rw [List.take_set, List.set_eq_of_length_le]; rw [List.length_take]; omega
  have e2 : (l.set i b).drop 64 = (l.drop 64).set (i - 64) b := by rw [List.drop_set, if_neg (by omega)]
  rw [e1, e2, padr_set (by rw [List.length_drop]; omega)]
theorem and_one (v : Int) (h0 : 0 ≤ v) (h2 : v ≤ 2) : bits .and .i64 v 1 = if v = 1 then 1 else 0 := by
  have : v = 0 ∨ v = 1 ∨ v = 2 := by omega
  rcases this with rfl | rfl | rfl <;> decide
theorem p_pset : T_pset := by
  unfold T_pset; try dsimp only [H_SpPt_2, H_SpPt_1, H_SpPt_3]
  rintro ⟨⟨hi, lo, v6⟩, i, v⟩ ⟨hw, h0, h1, h2, h3⟩
  dsimp only at hw h0 h1 h2 h3 ⊢
  have hwd := wd_le v6
  have hl := bitsA_length (hi, lo, v6)
  dsimp only at hl
  have c1 : (canA (hi, lo, v6)).1 = ((valB (padr 64 ((bitsA (hi, lo, v6)).take 64)) : Nat) : Int) := rfl
  have c2 : (canA (hi, lo, v6)).2.1 = ((valB (padr 64 ((bitsA (hi, lo, v6)).drop 64)) : Nat) : Int) := rfl
  have l1 := padr_take (bitsA (hi, lo, v6))
  have l2 := padr_drop (l := bitsA (hi, lo, v6)) (by omega)
  refine ⟨(hi, lo, v6), rfl, rfl, rfl, hw, fun _ _ => ifB_d (fun _ => ⟨v6, rfl, trivial, fun _ _ => ifB_d (fun _ => ⟨by omega, by omega, by omega, by omega, ?_⟩) fun h => absurd h1 h⟩) fun h => absurd h0 h⟩
  rw [and_one v h2 h3]
  by_cases hlo : i < 64
  · have d0 : i / 64 = 0 := by omega
    rw [d0]
    simp only [decide_true, ifB_true]
    have e1 := fun b => ofB_set_lo (v6 := v6) (l := bitsA (hi, lo, v6)) (i := i.toNat) (b := b) (by omega) (by omega)
    have e2 : i.toNat % 64 = i.toNat := Nat.mod_eq_of_lt (by omega)
    by_cases hv : v = 1
    · subst hv
      rw [if_pos rfl]
      simp only [decide_true, ifB_true]
      refine ⟨by omega, (), trivial, ?_⟩
      rw [c1, set_word l1 h0 (by omega), show oddZ 1 = true from rfl, e1, e2]
      exact ⟨rfl, rfl, rfl, trivial⟩
    · rw [if_neg hv]
      refine ⟨(), trivial, ?_⟩
      rw [c1, clear_word l1 h0 (by omega), show oddZ v = false from decide_eq_false hv, e1, e2]
      exact ⟨rfl, rfl, rfl, trivial⟩
  · have d1 : i / 64 = 1 := by omega
    rw [d1]
    have n10 : decide ((1 : Int) = 0) = false := rfl
    simp only [n10, decide_true, ifB_true, ifB_false]
    have e1 := fun b => ofB_set_hi (v6 := v6) (l := bitsA (hi, lo, v6)) (i := i.toNat) (b := b) (by omega) (by omega)
    have e2 : i.toNat % 64 = i.toNat - 64 := by omega
    by_cases hv : v = 1
    · subst hv
      rw [if_pos rfl]
      simp only [decide_true, ifB_true]
      refine ⟨by omega, (), trivial, ?_⟩
      rw [c2, set_word l2 h0 (by omega), show oddZ 1 = true from rfl, e1, e2]
      exact ⟨rfl, rfl, rfl, trivial⟩
    · rw [if_neg hv]
      refine ⟨(), trivial, ?_⟩
      rw [c2, clear_word l2 h0 (by omega), show oddZ v = false from decide_eq_false hv, e1, e2]
      exact ⟨rfl, rfl, rfl, trivial⟩
theorem bit_of {W : List Bool} (hW : W.length = 64) {i : Int} (h0 : 0 ≤ i) (h1 : i < 128) : bits .and .u64 (((valB W : Nat) : Int) / 2 ^ min ((63 - i % 64) % 18446744073709551616).toNat 64) 1 = if W.getD (i.toNat % 64) false = true then 1 else 0 := by
  have e : min ((63 - i % 64) % 18446744073709551616).toNat 64 = 63 - i.toNat % 64 := by omega
  have hlt : i.toNat % 64 < 64 := Nat.mod_lt _ (by omega)
  have hb := valB_bit W (i.toNat % 64) (by omega)
  have hv := valN hW
  rw [show W.length - 1 - i.toNat % 64 = 63 - i.toNat % 64 by omega] at hb
  rw [e, show ((2 : Int) ^ (63 - i.toNat % 64)) = ((2 ^ (63 - i.toNat % 64) : Nat) : Int) by simp, ← Int.natCast_ediv, show (1 : Int) = ((1 : Nat) : Int) from rfl, u64_and_nat _ _ (Nat.lt_of_le_of_lt (Nat.div_le_self _ _) hv) (by omega), Nat.and_one_is_mod,
    List.getD_eq_getElem?_getD, List.getElem?_eq_getElem (by omega)]
  rw [Nat.testBit_eq_decide_div_mod_eq] at hb
  show _ = if W[i.toNat % 64] = true then 1 else 0
  rw [← hb]
  by_cases hc : valB W / 2 ^ (63 - i.toNat % 64) % 2 = 1
  · rw [hc]; rfl
  · rw [show valB W / 2 ^ (63 - i.toNat % 64) % 2 = 0 by omega]; rfl
theorem padr_getD {n i : Nat} {l : List Bool} : (padr n l).getD i false = l.getD i false := by
  unfold padr
  rw [List.getD_eq_getElem?_getD, List.getD_eq_getElem?_getD, List.getElem?_append]
  split
  · rfl
  · rename_i h
    rw [List.getElem?_eq_none (l := l) (by omega), List.getElem?_replicate]
    split <;> rfl
theorem take_getD {α : Type} (l : List α) (d : α) {i n : Nat} (h : i < n) : (l.take n).getD i d = l.getD i d := by
  rw [List.getD_eq_getElem?_getD, List.getElem?_take, if_pos h, ← List.getD_eq_getElem?_getD]
theorem drop_getD {α : Type} (l : List α) (d : α) (i n : Nat) : (l.drop n).getD i d = l.getD (n + i) d := by
  rw [List.getD_eq_getElem?_getD, List.getElem?_drop, ← List.getD_eq_getElem?_getD]
theorem p_pbit : T_pbit := by
  rintro ⟨⟨hi, lo, v6⟩, i⟩ ⟨hw, h0, h1⟩
  dsimp only at hw h0 h1 ⊢
  have hwd := wd_le v6
  have hl := bitsA_length (hi, lo, v6)
  dsimp only at hl
  have c1 : (canA (hi, lo, v6)).1 = ((valB (padr 64 ((bitsA (hi, lo, v6)).take 64)) : Nat) : Int) := rfl
  have c2 : (canA (hi, lo, v6)).2.1 = ((valB (padr 64 ((bitsA (hi, lo, v6)).drop 64)) : Nat) : Int) := rfl
  have l1 := padr_take (bitsA (hi, lo, v6))
  have l2 := padr_drop (l := bitsA (hi, lo, v6)) (by omega)
  refine ifB_d (fun _ => ⟨v6, rfl, trivial, fun _ _ => ifB_nd (fun h => absurd h1 h) fun _ => ⟨(hi, lo, v6), rfl, rfl, rfl, hw, fun _ _ => ⟨by omega, ?_⟩⟩⟩) fun h => absurd h0 h
  by_cases hlo : i < 64
  · refine ifB_eq (by omega) ?_
    have e := bit_of l1 h0 (by omega)
    rw [padr_getD, show i.toNat % 64 = i.toNat by omega, take_getD _ _ (by omega)] at e
    rw [c1, e]
    refine ⟨by omega, by omega, by omega, ?_, (), trivial, rfl, trivial⟩
    split <;> omega
  · refine ifB_d (fun h => by omega) fun _ => ifB_eq (by omega) ?_
    have e := bit_of l2 h0 (by omega)
    rw [padr_getD, show i.toNat % 64 = i.toNat - 64 by omega, drop_getD, show 64 + (i.toNat - 64) = i.toNat by omega] at e
    rw [c2, e]
    refine ⟨by omega, by omega, by omega, ?_, (), trivial, rfl, trivial⟩
    split <;> omega
/-! ### prefixes by their digits -/
theorem ofB_padr {v6 : Bool} {l : List Bool} (hl : l.length ≤ wd v6) : ofB v6 (padr (wd v6) l) = ofB v6 l := by
  have h := bitsA_ofB v6 hl
  have h2 : (bitsA (ofB v6 l)).length = wd v6 := bitsA_length _
  unfold ofB
  have e1 : padr 64 ((padr (wd v6) l).take 64) = padr 64 (l.take 64) := by
    unfold padr
    rw [List.take_append, List.append_assoc]
    congr 1
    rw [List.take_replicate, List.replicate_append_replicate]
    congr 1
    simp
    rcases wd_cases v6 with ⟨_, e⟩ | ⟨_, e⟩ <;> rw [e] at hl ⊢ <;> omega
  have e2 : padr 64 ((padr (wd v6) l).drop 64) = padr 64 (l.drop 64) := by
    unfold padr
    rw [List.drop_append, List.append_assoc]
    congr 1
    rw [List.drop_replicate, List.replicate_append_replicate]
    congr 1
    simp
    rcases wd_cases v6 with ⟨_, e⟩ | ⟨_, e⟩ <;> rw [e] at hl ⊢ <;> omega
  rw [e1, e2]
theorem bitsP_length {p : Pf} (h : saneP p = true) : ((bitsP p).length : Int) = p.2.2.2 ∧ (bitsP p).length ≤ wd p.2.2.1 := by
  obtain ⟨_, h0, h1⟩ := sane_iff.1 h
  unfold bitsP
  rw [List.length_take, bitsA_length]
  show ((min p.2.2.2.toNat (wd p.2.2.1) : Nat) : Int) = _ ∧ min p.2.2.2.toNat (wd p.2.2.1) ≤ wd p.2.2.1
  omega
theorem sane_pfx {p : Pf} (h : saneP p = true) : p = pfx p.2.2.1 (bitsP p) := by
  have h1 := (sane_iff.1 h).1
  have h2 := (bitsP_length h).1
  have h3 : ofB p.2.2.1 (bitsP p) = pA p := h1
  unfold pfx
  rw [h3, h2]
theorem pfx_bits {v6 : Bool} {l : List Bool} (hl : l.length ≤ wd v6) : bitsP (pfx v6 l) = l := by
  show (bitsA (ofB v6 l)).take ((l.length : Int)).toNat = l
  rw [bitsA_ofB v6 hl, Int.toNat_natCast]
  unfold padr
  rw [List.take_left]
theorem pfx_sane {v6 : Bool} {l : List Bool} (hl : l.length ≤ wd v6) : saneP (pfx v6 l) = true := by
  refine sane_iff.2 ⟨?_, Int.natCast_nonneg _, Int.ofNat_le.2 hl⟩
  show ofB v6 (bitsP (pfx v6 l)) = ofB v6 l
  rw [pfx_bits hl]
theorem pfx_inj {v6 v6' : Bool} {l l' : List Bool} (hl : l.length ≤ wd v6) (hl' : l'.length ≤ wd v6') (h : pfx v6 l = pfx v6' l') : v6 = v6' ∧ l = l' := by
  have h1 : v6 = v6' := congrArg (fun p : Pf => p.2.2.1) h
  subst h1
  have := congrArg bitsP h
  rw [pfx_bits hl, pfx_bits hl'] at this
  exact ⟨rfl, this⟩
theorem ofPf_pfx (a : Ad) (n : Int) : ofPf a n = pfx a.2.2 ((bitsA a).take n.toNat) := by
  unfold ofPf pfx maskA
  have : (((bitsA a).take n.toNat).length : Int) = clampZ a.2.2 n := by
    rw [List.length_take, bitsA_length]
    unfold clampZ
    omega
  rw [this]
theorem wf_pfx {v6 : Bool} {l : List Bool} (hl : l.length ≤ wd v6) : wfP (pfx v6 l) := wfA_ofB v6 (Nat.le_trans hl (wd_le v6))
theorem sane_wf {p : Pf} (h : saneP p = true) : wfP p := by
  rw [sane_pfx h]
  exact wf_pfx (bitsP_length h).2
theorem of_wf (a : Ad) (n : Int) : saneP (ofPf a n) = true := by
  rw [ofPf_pfx]
  exact pfx_sane (by rw [List.length_take, bitsA_length]; exact Nat.min_le_right _ _)
/-! ### kept -/
theorem p_pchild : T_pchild := by
  unfold T_pchild; try dsimp only [H_SpPt_7, H_SpPt_4]
  rintro ⟨⟨hi, lo, v6, n⟩, v⟩ ⟨hw, h2, h3⟩
  dsimp only at hw h2 h3 ⊢
  refine ⟨(hi, lo, v6, n), rfl, rfl, rfl, rfl, hw, fun _ _ => ifB_b (fun hs => ?_) fun hs => ?_⟩
  · have hs : saneP (hi, lo, v6, n) = false := by simpa using hs
    unfold childR
    rw [if_neg (by rw [hs]; simp)]
    exact ⟨(), trivial, rfl, rfl, rfl, rfl, rfl, trivial⟩
  have hs : saneP (hi, lo, v6, n) = true := by simpa using hs
  obtain ⟨_, n0, n1⟩ := sane_iff.1 hs
  dsimp only at n0 n1
  refine ⟨v6, rfl, trivial, fun _ _ => ifB_d (fun hn => ?_) fun hn => ?_⟩
  · unfold childR
    rw [if_neg (by dsimp only; omega)]
    exact ⟨(), trivial, rfl, rfl, rfl, rfl, rfl, trivial⟩
  have hwd := wd_le v6
  refine ⟨by omega, ((hi, lo, v6), n, v), rfl, rfl, rfl, rfl, rfl, ⟨hw, n0, by dsimp only; omega, h2, h3⟩, fun _ _ => ?_⟩
  have hb := sane_bits hs
  have hl := bitsP_length hs
  dsimp only at hl hb ⊢
  have e : ofB v6 ((bitsA (hi, lo, v6)).set n.toNat (oddZ v)) = ofB v6 (bitsP (hi, lo, v6, n) ++ [oddZ v]) := by
    have h1 : bitsA (hi, lo, v6) = bitsP (hi, lo, v6, n) ++ List.replicate (wd v6 - (bitsP (hi, lo, v6, n)).length) false := hb
    have h4 : n.toNat = (bitsP (hi, lo, v6, n)).length := by omega
    have h5 : wd v6 - (bitsP (hi, lo, v6, n)).length = (wd v6 - (bitsP (hi, lo, v6, n)).length - 1) + 1 := by omega
    rw [h1, h4, List.set_append_right _ _ (Nat.le_refl _), Nat.sub_self, h5, List.replicate_succ, List.set_cons_zero, ← ofB_padr (l := bitsP (hi, lo, v6, n) ++ [oddZ v]) (by rw [List.length_append, List.length_singleton]; omega)]
    unfold padr
    rw [List.length_append, List.length_singleton, List.append_assoc, List.singleton_append, Nat.sub_add_eq]
  have e2 : childR (hi, lo, v6, n) v = (pfx v6 (bitsP (hi, lo, v6, n) ++ [oddZ v]), true) := if_pos ⟨hs, by dsimp only; omega⟩
  rw [e2, e]
  refine ⟨(), trivial, rfl, rfl, rfl, ?_, rfl, trivial⟩
  show n + 1 = (((bitsP (hi, lo, v6, n) ++ [oddZ v]).length : Nat) : Int)
  rw [List.length_append, List.length_singleton]
  omega
theorem p_pparent : T_pparent := by
  unfold T_pparent; try dsimp only [H_SpPt_5]
  rintro ⟨hi, lo, v6, n⟩ hw
  dsimp only at hw ⊢
  refine ifB_d (fun h0 => ?_) fun h0 => ⟨(hi, lo, v6, n), rfl, rfl, rfl, rfl, hw, fun _ _ => ifB_b (fun hs => ?_) fun hs => ?_⟩
  · unfold parentR
    rw [if_neg (by dsimp only; omega)]
    exact ⟨(), trivial, rfl, rfl, rfl, rfl, rfl, trivial⟩
  · have hs : saneP (hi, lo, v6, n) = false := by simpa using hs
    unfold parentR
    rw [if_neg (by rw [hs]; simp)]
    exact ⟨(), trivial, rfl, rfl, rfl, rfl, rfl, trivial⟩
  · have hs : saneP (hi, lo, v6, n) = true := by simpa using hs
    obtain ⟨_, n0, n1⟩ := sane_iff.1 hs
    dsimp only at n0 n1
    have hwd := wd_le v6
    unfold parentR
    rw [if_pos ⟨hs, by dsimp only; omega⟩]
    exact ⟨by omega, ((hi, lo, v6), n - 1), rfl, rfl, rfl, rfl, hw, fun _ _ => ⟨(), trivial, rfl, rfl, rfl, rfl, rfl, trivial⟩⟩
theorem p_pcontains : T_pcontains := by
  unfold T_pcontains; try dsimp only [H_SpPt_6]
  rintro ⟨⟨hi, lo, v6, n⟩, ⟨b1, b2, b3⟩⟩ ⟨hw, hw2⟩
  dsimp only at hw hw2 ⊢
  refine ⟨(hi, lo, v6, n), rfl, rfl, rfl, rfl, hw, fun _ _ => ifB_b (fun hs => ⟨((b1, b2, b3), n), rfl, rfl, rfl, rfl, hw2, fun _ _ => ⟨(), trivial, ?_, trivial⟩⟩) fun hs => ⟨(), trivial, ?_, trivial⟩⟩
  · unfold containsP
    rw [hs, Bool.true_and, Bool.eq_iff_iff]
    simp only [Bool.and_eq_true, decide_eq_true_eq, Prod.ext_iff]
  · unfold containsP
    rw [hs, Bool.false_and]
theorem GP0 : Goods Tryz.prog P0 := goods_cons (good_of_owes hM hP GW2 Tryz.func223 rfl (o_pbit ▸ p_pbit)) (goods_cons (good_of_owes hM hP GW2 Tryz.func234 rfl (o_pset ▸ p_pset)) (goods_cons (good_of_owes hM hP GW2 Tryz.func269 rfl (o_pparent ▸ p_pparent)) (goods_cons (good_of_owes hM hP GW2 Tryz.func33 rfl (o_pcontains ▸ p_pcontains)) GW2)))
theorem p_pcovers : T_pcovers := by
  unfold T_pcovers; try dsimp only [H_SpPt_6]
  rintro ⟨⟨hi, lo, v6, n⟩, ⟨b1, b2, b3, m⟩⟩ ⟨hw, hw2⟩
  dsimp only at hw hw2 ⊢
  refine ifB_d (fun h => ⟨(b1, b2, b3, m), rfl, rfl, rfl, rfl, hw2, fun _ _ => ifB_b (fun hs => ⟨((hi, lo, v6, n), (b1, b2, b3)), rfl, rfl, rfl, rfl, rfl, rfl, rfl, ⟨hw, hw2⟩, fun _ _ => ⟨(), trivial, ?_, trivial⟩⟩) fun hs => ⟨(), trivial, ?_, trivial⟩⟩) fun h => ⟨(), trivial, ?_, trivial⟩
  · unfold coversP
    rw [decide_eq_true h, hs]
    rfl
  · unfold coversP
    rw [hs, Bool.false_and, Bool.and_false]
  · unfold coversP
    rw [decide_eq_false h, Bool.false_and]
theorem GP1 : Goods Tryz.prog P1 := goods_cons (good_of_owes hM hP GP0 Tryz.func174 rfl (o_pchild ▸ p_pchild)) (goods_cons (good_of_owes hM hP GP0 Tryz.func264 rfl (o_pcovers ▸ p_pcovers)) GP0)
theorem p_psibling : T_psibling := by
  unfold T_psibling; try dsimp only [H_SpPt_7]
  rintro ⟨hi, lo, v6, n⟩ hw
  dsimp only at hw ⊢
  refine ⟨(hi, lo, v6, n), rfl, rfl, rfl, rfl, hw, fun _ _ => ?_⟩
  by_cases hc : saneP (hi, lo, v6, n) = true ∧ 0 < n
  · obtain ⟨hs, hn⟩ := hc
    obtain ⟨_, n0, n1⟩ := sane_iff.1 hs
    dsimp only at n0 n1
    have hwd := wd_le v6
    have ep : parentR (hi, lo, v6, n) = (ofPf (hi, lo, v6) (n - 1), true) := if_pos ⟨hs, hn⟩
    have es : siblingR (hi, lo, v6, n) = (childP (ofPf (hi, lo, v6) (n - 1)) (!((bitsA (hi, lo, v6)).getD (n - 1).toNat false)), true) := if_pos ⟨hs, hn⟩
    have en : (ofPf (hi, lo, v6) (n - 1)).2.2.2 = n - 1 := by
      show clampZ v6 (n - 1) = n - 1
      unfold clampZ
      omega
    have hso := of_wf (hi, lo, v6) (n - 1)
    have ev : (ofPf (hi, lo, v6) (n - 1)).2.2.1 = v6 := rfl
    rw [ep, es]
    refine ifB_fb rfl ⟨((hi, lo, v6), n - 1), rfl, rfl, rfl, en, ⟨hw, by dsimp only; omega, by dsimp only; omega⟩, fun _ _ => ?_⟩
    have hb : bitW (hi, lo, v6) (n - 1).toNat = 0 ∨ bitW (hi, lo, v6) (n - 1).toNat = 1 := by unfold bitW; split <;> simp
    dsimp only
    refine ⟨by omega, (ofPf (hi, lo, v6) (n - 1), bitW (hi, lo, v6) (n - 1).toNat + 1), rfl, rfl, rfl, rfl, rfl, ⟨sane_wf hso, by dsimp only; omega, by dsimp only; omega⟩, fun _ _ => ?_⟩
    have ec : childR (ofPf (hi, lo, v6) (n - 1)) (bitW (hi, lo, v6) (n - 1).toNat + 1) = (childP (ofPf (hi, lo, v6) (n - 1)) (!((bitsA (hi, lo, v6)).getD (n - 1).toNat false)), true) := by
      unfold childR
      rw [if_pos ⟨hso, by rw [en, ev]; omega⟩]
      congr 2
      unfold bitW oddZ
      cases (bitsA (hi, lo, v6)).getD (n - 1).toNat false <;> rfl
    dsimp only
    rw [ec]
    exact ⟨(), trivial, rfl, rfl, rfl, rfl, rfl, trivial⟩
  · have ep : parentR (hi, lo, v6, n) = (zP, false) := if_neg hc
    have es : siblingR (hi, lo, v6, n) = (zP, false) := if_neg hc
    rw [ep, es]
    exact ifB_tb rfl ⟨(), trivial, rfl, rfl, rfl, rfl, rfl, trivial⟩
theorem GP2 : Goods Tryz.prog P2 := goods_cons (good_of_owes hM hP GP1 Tryz.func268 rfl (o_psibling ▸ p_psibling)) GP1
end Sp
end
