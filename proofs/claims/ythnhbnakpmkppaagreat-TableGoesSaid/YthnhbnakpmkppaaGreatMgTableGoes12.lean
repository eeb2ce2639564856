import Derived.ProofKit
import Derived.Test.YthnhbnakpmkppaaGreatMgTableGoes11
section
set_option linter.all false
set_option maxRecDepth 100000
namespace Sp
open Go Go.Proofs Sx
@[reducible] def H_SpTmt_1 (v1 : Int × Int × Trie) (v2 : Ad × Int) (v3 : Int × Int × Trie → Prop) (v4 : Int × Int × Trie → Nat) : Prop :=
 ∃ (b1 : Trie × Int), v1.1 = b1.2 /\ v1.2.2.ar.length = b1.1.ar.length /\ v1.2.2.fr.length = b1.1.fr.length /\ v1.2.2.n = b1.1.n /\ v1.2.2.ar = b1.1.ar /\ v1.2.2.fr = b1.1.fr /\ ((∀ (b2 : Int),
 List.Mem b2 b1.1.fr -> (0 : Int) <= b2 /\ b2.toNat < b1.1.ar.length) /\ b1.1.ar.length <= (2000000 : Nat) /\ b1.1.fr.length <= (2000000 : Nat)) /\ ∀ (b3 : Unit), True -> ((0 : Int) <= v1.1 /\ v1.1 <
 (↑(b1.1.take b1.2).ar.length : Int)) /\ ifB (decide (bitW v2.1 v2.2.toNat = (0 : Int))) (((-9223372036854775808 : Int) <= v1.2.1 + (1 : Int) /\ v1.2.1 + (1 : Int) <= (9223372036854775807 : Int)) /\ ∃
 (b4 : Int × Int × Trie), v3 b4 /\ v4 b4 < v4 v1 /\ b1.1.takeAt = b4.1 /\ v1.2.1 + (1 : Int) = b4.2.1 /\ (b1.1.take b1.2).ar.length = b4.2.2.ar.length /\ (b1.1.take b1.2).fr.length = b4.2.2.fr.length
 /\ (b1.1.take b1.2).n = b4.2.2.n /\ (b1.1.take b1.2).ar.set v1.1.toNat (b1.1.takeAt, ((b1.1.take b1.2).ar.getD v1.1.toNat ((0 : Int), (0 : Int), (0 : Int), false, (0 : Int))).2.1, ((b1.1.take
 b1.2).ar.getD v1.1.toNat ((0 : Int), (0 : Int), (0 : Int), false, (0 : Int))).2.2.1, ((b1.1.take b1.2).ar.getD v1.1.toNat ((0 : Int), (0 : Int), (0 : Int), false, (0 : Int))).2.2.2.1, ((b1.1.take
 b1.2).ar.getD v1.1.toNat ((0 : Int), (0 : Int), (0 : Int), false, (0 : Int))).2.2.2.2) = b4.2.2.ar /\ (b1.1.take b1.2).fr = b4.2.2.fr /\ True) (ifB (decide (bitW v2.1 v2.2.toNat = (1 : Int)))
 (((-9223372036854775808 : Int) <= v1.2.1 + (1 : Int) /\ v1.2.1 + (1 : Int) <= (9223372036854775807 : Int)) /\ ∃ (b5 : Int × Int × Trie), v3 b5 /\ v4 b5 < v4 v1 /\ b1.1.takeAt = b5.1 /\ v1.2.1 + (1 :
 Int) = b5.2.1 /\ (b1.1.take b1.2).ar.length = b5.2.2.ar.length /\ (b1.1.take b1.2).fr.length = b5.2.2.fr.length /\ (b1.1.take b1.2).n = b5.2.2.n /\ (b1.1.take b1.2).ar.set v1.1.toNat (((b1.1.take
 b1.2).ar.getD v1.1.toNat ((0 : Int), (0 : Int), (0 : Int), false, (0 : Int))).1, b1.1.takeAt, ((b1.1.take b1.2).ar.getD v1.1.toNat ((0 : Int), (0 : Int), (0 : Int), false, (0 : Int))).2.2.1,
 ((b1.1.take b1.2).ar.getD v1.1.toNat ((0 : Int), (0 : Int), (0 : Int), false, (0 : Int))).2.2.2.1, ((b1.1.take b1.2).ar.getD v1.1.toNat ((0 : Int), (0 : Int), (0 : Int), false, (0 : Int))).2.2.2.2) =
 b5.2.2.ar /\ (b1.1.take b1.2).fr = b5.2.2.fr /\ True) False)
@[reducible] def H_SpTmt_2 (v1 : Trie × Pf) : Prop :=
 ∃ (b1 : Trie), (ifB (saneP v1.2) (DelP v1.1 v1.2 b1) (b1 = v1.1)) /\ ((2 : Int) = if saneP v1.2 = true then if (v1.1.get v1.2.2.2.1 (bitsP v1.2)).isSome = true then (0 : Int) else (2 : Int) else (1 :
 Int)) /\ v1.1.ar.length = b1.ar.length /\ v1.1.fr.length = b1.fr.length /\ v1.1.n = b1.n /\ v1.1.ar = b1.ar /\ v1.1.fr = b1.fr /\ True
@[reducible] def H_SpTmt_3 (v1 : Trie × Bool × List Bool × Int) (v2 : Int × Trie) : Prop :=
 ∃ (b1 : Trie), PruneP v1.1 v1.2.2.1 b1 /\ v2.2.ar.length = b1.ar.length /\ v2.2.fr.length = b1.fr.length /\ v2.2.n = b1.n /\ v2.2.ar = b1.ar /\ v2.2.fr = b1.fr /\ True
def T_ttake  : Prop :=
 ∀ (x : Trie × Int), (∀ (y : Int), List.Mem y x.1.fr -> (0 : Int) <= y /\ y.toNat < x.1.ar.length) /\ x.1.ar.length <= (2000000 : Nat) /\ x.1.fr.length <= (2000000 : Nat) -> ifB (decide ((0 : Int) <
 (↑x.1.fr.length : Int))) (((-9223372036854775808 : Int) <= (↑x.1.fr.length : Int) - (1 : Int) /\ (↑x.1.fr.length : Int) - (1 : Int) <= (9223372036854775807 : Int)) /\ ((0 : Int) <= (↑x.1.fr.length :
 Int) - (1 : Int) /\ (↑x.1.fr.length : Int) - (1 : Int) < (↑x.1.fr.length : Int)) /\ ((-9223372036854775808 : Int) <= (↑x.1.fr.length : Int) - (1 : Int) /\ (↑x.1.fr.length : Int) - (1 : Int) <=
 (9223372036854775807 : Int)) /\ ((0 : Int) <= (↑x.1.fr.length : Int) - (1 : Int) /\ (↑x.1.fr.length : Int) - (1 : Int) <= (↑x.1.fr.length : Int)) /\ ((0 : Int) <= x.1.fr.getD ((↑x.1.fr.length : Int) -
 (1 : Int)).toNat (0 : Int) /\ x.1.fr.getD ((↑x.1.fr.length : Int) - (1 : Int)).toNat (0 : Int) < (↑x.1.ar.length : Int)) /\ ∃ (y : Unit), True /\ x.1.fr.getD ((↑x.1.fr.length : Int) - (1 : Int)).toNat
 (0 : Int) = x.1.takeAt /\ x.1.ar.length = (x.1.take x.2).ar.length /\ ((↑x.1.fr.length : Int) - (1 : Int)).toNat - (0 : Nat) = (x.1.take x.2).fr.length /\ x.1.n = (x.1.take x.2).n /\ x.1.ar.set
 (x.1.fr.getD ((↑x.1.fr.length : Int) - (1 : Int)).toNat (0 : Int)).toNat ((-1 : Int), (-1 : Int), x.2, false, (0 : Int)) = (x.1.take x.2).ar /\ List.take ((↑x.1.fr.length : Int) - (1 : Int)).toNat
 x.1.fr = (x.1.take x.2).fr /\ True) (((x.1.ar.length + [((-1 : Int), (-1 : Int), x.2, false, (0 : Int))].length) * (40 : Nat) <= (140737488355328 : Nat) /\ x.1.ar.length + [((-1 : Int), (-1 : Int),
 x.2, false, (0 : Int))].length <= (140737488355328 : Nat)) /\ ((-9223372036854775808 : Int) <= (↑(x.1.ar.length + [((-1 : Int), (-1 : Int), x.2, false, (0 : Int))].length) : Int) - (1 : Int) /\
 (↑(x.1.ar.length + [((-1 : Int), (-1 : Int), x.2, false, (0 : Int))].length) : Int) - (1 : Int) <= (9223372036854775807 : Int)) /\ ∃ (y : Unit), True /\ (↑(x.1.ar.length + [((-1 : Int), (-1 : Int),
 x.2, false, (0 : Int))].length) : Int) - (1 : Int) = x.1.takeAt /\ x.1.ar.length + [((-1 : Int), (-1 : Int), x.2, false, (0 : Int))].length = (x.1.take x.2).ar.length /\ x.1.fr.length = (x.1.take
 x.2).fr.length /\ x.1.n = (x.1.take x.2).n /\ x.1.ar ++ [((-1 : Int), (-1 : Int), x.2, false, (0 : Int))] = (x.1.take x.2).ar /\ x.1.fr = (x.1.take x.2).fr /\ True)
def T_tput  : Prop :=
 ∀ (x : Trie × Pf × Int), (TR x.1.ar x.1.fr x.1.t0 x.1.t1 /\ x.1.ar.length <= (1000000 : Nat) /\ x.1.fr.length <= (1000000 : Nat) /\ (0 : Int) <= x.1.n /\ x.1.n <= (1000000 : Int)) /\ ((0 : Int) <= (pA
 x.2.1).1 /\ (pA x.2.1).1 < (18446744073709551616 : Int)) /\ (0 : Int) <= (pA x.2.1).2.1 /\ (pA x.2.1).2.1 < (18446744073709551616 : Int) -> ∃ (x_1 : Trie), x.1.ar.length = x_1.ar.length /\
 x.1.fr.length = x_1.fr.length /\ x.1.n = x_1.n /\ x.1.ar = x_1.ar /\ x.1.fr = x_1.fr /\ TR x_1.ar x_1.fr x_1.t0 x_1.t1 /\ ∀ (y : Unit), True -> ∃ (x_2 : Int × Int × Bool × Int), x.2.1.1 = x_2.1 /\
 x.2.1.2.1 = x_2.2.1 /\ x.2.1.2.2.1 = x_2.2.2.1 /\ x.2.1.2.2.2 = x_2.2.2.2 /\ (((0 : Int) <= (pA x_2).1 /\ (pA x_2).1 < (18446744073709551616 : Int)) /\ (0 : Int) <= (pA x_2).2.1 /\ (pA x_2).2.1 <
 (18446744073709551616 : Int)) /\ ∀ (y : Unit), True -> ifB (!saneP x_2) (∃ (y : Trie), (ifB (saneP x.2.1) (PutP x.1 x.2.1 x.2.2 y) (y = x.1)) /\ ((1 : Int) = if saneP x.2.1 = true then (0 : Int) else
 (1 : Int)) /\ x.1.ar.length = y.ar.length /\ x.1.fr.length = y.fr.length /\ x.1.n = y.n /\ x.1.ar = y.ar /\ x.1.fr = y.fr /\ True) (∃ (x_3 : Bool), x.2.1.2.2.1 = x_3 /\ True /\ ∀ (y : Unit), True -> ∃
 (I : Int × Int × Trie -> Prop), ∃ (μ : Int × Int × Trie -> Nat), (∃ (x_4 : Int × Int × Trie), I x_4 /\ (if x_3 = true then (1 : Int) else (0 : Int)) = x_4.1 /\ (0 : Int) = x_4.2.1 /\ x.1.ar.length =
 x_4.2.2.ar.length /\ x.1.fr.length = x_4.2.2.fr.length /\ x.1.n = x_4.2.2.n /\ x.1.ar = x_4.2.2.ar /\ x.1.fr = x_4.2.2.fr /\ True) /\ ∀ (x_4 : Int × Int × Trie), I x_4 -> ifB (decide (x_4.2.1 <
 x.2.1.2.2.2)) (∃ (x_5 : Ad × Int), x.2.1.1 = x_5.1.1 /\ x.2.1.2.1 = x_5.1.2.1 /\ x.2.1.2.2.1 = x_5.1.2.2 /\ x_4.2.1 = x_5.2 /\ ((((0 : Int) <= x_5.1.1 /\ x_5.1.1 < (18446744073709551616 : Int)) /\ (0
 : Int) <= x_5.1.2.1 /\ x_5.1.2.1 < (18446744073709551616 : Int)) /\ (0 : Int) <= x_5.2 /\ x_5.2 < (↑(wd x_5.1.2.2) : Int)) /\ ∀ (y : Unit), True -> ((0 : Int) <= x_4.1 /\ x_4.1 < (↑x_4.2.2.ar.length :
 Int)) /\ ifB (decide (bitW x_5.1 x_5.2.toNat = (0 : Int))) (ifB (decide ((x_4.2.2.ar.getD x_4.1.toNat ((0 : Int), (0 : Int), (0 : Int), false, (0 : Int))).1 = (-1 : Int))) (H_SpTmt_1 x_4 x_5 I μ)
 (((-9223372036854775808 : Int) <= x_4.2.1 + (1 : Int) /\ x_4.2.1 + (1 : Int) <= (9223372036854775807 : Int)) /\ ∃ (y : Int × Int × Trie), I y /\ μ y < μ x_4 /\ (x_4.2.2.ar.getD x_4.1.toNat ((0 : Int),
 (0 : Int), (0 : Int), false, (0 : Int))).1 = y.1 /\ x_4.2.1 + (1 : Int) = y.2.1 /\ x_4.2.2.ar.length = y.2.2.ar.length /\ x_4.2.2.fr.length = y.2.2.fr.length /\ x_4.2.2.n = y.2.2.n /\ x_4.2.2.ar =
 y.2.2.ar /\ x_4.2.2.fr = y.2.2.fr /\ True)) (ifB (decide (bitW x_5.1 x_5.2.toNat = (1 : Int))) (ifB (decide ((x_4.2.2.ar.getD x_4.1.toNat ((0 : Int), (0 : Int), (0 : Int), false, (0 : Int))).2.1 = (-1
 : Int))) (H_SpTmt_1 x_4 x_5 I μ) (((-9223372036854775808 : Int) <= x_4.2.1 + (1 : Int) /\ x_4.2.1 + (1 : Int) <= (9223372036854775807 : Int)) /\ ∃ (y : Int × Int × Trie), I y /\ μ y < μ x_4 /\
 (x_4.2.2.ar.getD x_4.1.toNat ((0 : Int), (0 : Int), (0 : Int), false, (0 : Int))).2.1 = y.1 /\ x_4.2.1 + (1 : Int) = y.2.1 /\ x_4.2.2.ar.length = y.2.2.ar.length /\ x_4.2.2.fr.length = y.2.2.fr.length
 /\ x_4.2.2.n = y.2.2.n /\ x_4.2.2.ar = y.2.2.ar /\ x_4.2.2.fr = y.2.2.fr /\ True)) False)) (((0 : Int) <= x_4.1 /\ x_4.1 < (↑x_4.2.2.ar.length : Int)) /\ ifB (!(x_4.2.2.ar.getD x_4.1.toNat ((0 : Int),
 (0 : Int), (0 : Int), false, (0 : Int))).2.2.2.1) (((-9223372036854775808 : Int) <= x_4.2.2.n + (1 : Int) /\ x_4.2.2.n + (1 : Int) <= (9223372036854775807 : Int)) /\ ∃ (y : Trie), (ifB (saneP x.2.1)
 (PutP x.1 x.2.1 x.2.2 y) (y = x.1)) /\ ((0 : Int) = if saneP x.2.1 = true then (0 : Int) else (1 : Int)) /\ x_4.2.2.ar.length = y.ar.length /\ x_4.2.2.fr.length = y.fr.length /\ x_4.2.2.n + (1 : Int)
 = y.n /\ (x_4.2.2.ar.set x_4.1.toNat ((x_4.2.2.ar.getD x_4.1.toNat ((0 : Int), (0 : Int), (0 : Int), false, (0 : Int))).1, (x_4.2.2.ar.getD x_4.1.toNat ((0 : Int), (0 : Int), (0 : Int), false, (0 :
 Int))).2.1, (x_4.2.2.ar.getD x_4.1.toNat ((0 : Int), (0 : Int), (0 : Int), false, (0 : Int))).2.2.1, true, (x_4.2.2.ar.getD x_4.1.toNat ((0 : Int), (0 : Int), (0 : Int), false, (0 :
 Int))).2.2.2.2)).set x_4.1.toNat (((x_4.2.2.ar.set x_4.1.toNat ((x_4.2.2.ar.getD x_4.1.toNat ((0 : Int), (0 : Int), (0 : Int), false, (0 : Int))).1, (x_4.2.2.ar.getD x_4.1.toNat ((0 : Int), (0 : Int),
 (0 : Int), false, (0 : Int))).2.1, (x_4.2.2.ar.getD x_4.1.toNat ((0 : Int), (0 : Int), (0 : Int), false, (0 : Int))).2.2.1, true, (x_4.2.2.ar.getD x_4.1.toNat ((0 : Int), (0 : Int), (0 : Int), false,
 (0 : Int))).2.2.2.2)).getD x_4.1.toNat ((0 : Int), (0 : Int), (0 : Int), false, (0 : Int))).1, ((x_4.2.2.ar.set x_4.1.toNat ((x_4.2.2.ar.getD x_4.1.toNat ((0 : Int), (0 : Int), (0 : Int), false, (0 :
 Int))).1, (x_4.2.2.ar.getD x_4.1.toNat ((0 : Int), (0 : Int), (0 : Int), false, (0 : Int))).2.1, (x_4.2.2.ar.getD x_4.1.toNat ((0 : Int), (0 : Int), (0 : Int), false, (0 : Int))).2.2.1, true,
 (x_4.2.2.ar.getD x_4.1.toNat ((0 : Int), (0 : Int), (0 : Int), false, (0 : Int))).2.2.2.2)).getD x_4.1.toNat ((0 : Int), (0 : Int), (0 : Int), false, (0 : Int))).2.1, ((x_4.2.2.ar.set x_4.1.toNat
 ((x_4.2.2.ar.getD x_4.1.toNat ((0 : Int), (0 : Int), (0 : Int), false, (0 : Int))).1, (x_4.2.2.ar.getD x_4.1.toNat ((0 : Int), (0 : Int), (0 : Int), false, (0 : Int))).2.1, (x_4.2.2.ar.getD
 x_4.1.toNat ((0 : Int), (0 : Int), (0 : Int), false, (0 : Int))).2.2.1, true, (x_4.2.2.ar.getD x_4.1.toNat ((0 : Int), (0 : Int), (0 : Int), false, (0 : Int))).2.2.2.2)).getD x_4.1.toNat ((0 : Int),
 (0 : Int), (0 : Int), false, (0 : Int))).2.2.1, ((x_4.2.2.ar.set x_4.1.toNat ((x_4.2.2.ar.getD x_4.1.toNat ((0 : Int), (0 : Int), (0 : Int), false, (0 : Int))).1, (x_4.2.2.ar.getD x_4.1.toNat ((0 :
 Int), (0 : Int), (0 : Int), false, (0 : Int))).2.1, (x_4.2.2.ar.getD x_4.1.toNat ((0 : Int), (0 : Int), (0 : Int), false, (0 : Int))).2.2.1, true, (x_4.2.2.ar.getD x_4.1.toNat ((0 : Int), (0 : Int),
 (0 : Int), false, (0 : Int))).2.2.2.2)).getD x_4.1.toNat ((0 : Int), (0 : Int), (0 : Int), false, (0 : Int))).2.2.2.1, x.2.2) = y.ar /\ x_4.2.2.fr = y.fr /\ True) (∃ (y : Trie), (ifB (saneP x.2.1)
 (PutP x.1 x.2.1 x.2.2 y) (y = x.1)) /\ ((0 : Int) = if saneP x.2.1 = true then (0 : Int) else (1 : Int)) /\ x_4.2.2.ar.length = y.ar.length /\ x_4.2.2.fr.length = y.fr.length /\ x_4.2.2.n = y.n /\
 (x_4.2.2.ar.set x_4.1.toNat ((x_4.2.2.ar.getD x_4.1.toNat ((0 : Int), (0 : Int), (0 : Int), false, (0 : Int))).1, (x_4.2.2.ar.getD x_4.1.toNat ((0 : Int), (0 : Int), (0 : Int), false, (0 : Int))).2.1,
 (x_4.2.2.ar.getD x_4.1.toNat ((0 : Int), (0 : Int), (0 : Int), false, (0 : Int))).2.2.1, true, (x_4.2.2.ar.getD x_4.1.toNat ((0 : Int), (0 : Int), (0 : Int), false, (0 : Int))).2.2.2.2)).set
 x_4.1.toNat (((x_4.2.2.ar.set x_4.1.toNat ((x_4.2.2.ar.getD x_4.1.toNat ((0 : Int), (0 : Int), (0 : Int), false, (0 : Int))).1, (x_4.2.2.ar.getD x_4.1.toNat ((0 : Int), (0 : Int), (0 : Int), false, (0
 : Int))).2.1, (x_4.2.2.ar.getD x_4.1.toNat ((0 : Int), (0 : Int), (0 : Int), false, (0 : Int))).2.2.1, true, (x_4.2.2.ar.getD x_4.1.toNat ((0 : Int), (0 : Int), (0 : Int), false, (0 :
 Int))).2.2.2.2)).getD x_4.1.toNat ((0 : Int), (0 : Int), (0 : Int), false, (0 : Int))).1, ((x_4.2.2.ar.set x_4.1.toNat ((x_4.2.2.ar.getD x_4.1.toNat ((0 : Int), (0 : Int), (0 : Int), false, (0 :
 Int))).1, (x_4.2.2.ar.getD x_4.1.toNat ((0 : Int), (0 : Int), (0 : Int), false, (0 : Int))).2.1, (x_4.2.2.ar.getD x_4.1.toNat ((0 : Int), (0 : Int), (0 : Int), false, (0 : Int))).2.2.1, true,
 (x_4.2.2.ar.getD x_4.1.toNat ((0 : Int), (0 : Int), (0 : Int), false, (0 : Int))).2.2.2.2)).getD x_4.1.toNat ((0 : Int), (0 : Int), (0 : Int), false, (0 : Int))).2.1, ((x_4.2.2.ar.set x_4.1.toNat
 ((x_4.2.2.ar.getD x_4.1.toNat ((0 : Int), (0 : Int), (0 : Int), false, (0 : Int))).1, (x_4.2.2.ar.getD x_4.1.toNat ((0 : Int), (0 : Int), (0 : Int), false, (0 : Int))).2.1, (x_4.2.2.ar.getD
 x_4.1.toNat ((0 : Int), (0 : Int), (0 : Int), false, (0 : Int))).2.2.1, true, (x_4.2.2.ar.getD x_4.1.toNat ((0 : Int), (0 : Int), (0 : Int), false, (0 : Int))).2.2.2.2)).getD x_4.1.toNat ((0 : Int),
 (0 : Int), (0 : Int), false, (0 : Int))).2.2.1, ((x_4.2.2.ar.set x_4.1.toNat ((x_4.2.2.ar.getD x_4.1.toNat ((0 : Int), (0 : Int), (0 : Int), false, (0 : Int))).1, (x_4.2.2.ar.getD x_4.1.toNat ((0 :
 Int), (0 : Int), (0 : Int), false, (0 : Int))).2.1, (x_4.2.2.ar.getD x_4.1.toNat ((0 : Int), (0 : Int), (0 : Int), false, (0 : Int))).2.2.1, true, (x_4.2.2.ar.getD x_4.1.toNat ((0 : Int), (0 : Int),
 (0 : Int), false, (0 : Int))).2.2.2.2)).getD x_4.1.toNat ((0 : Int), (0 : Int), (0 : Int), false, (0 : Int))).2.2.2.1, x.2.2) = y.ar /\ x_4.2.2.fr = y.fr /\ True)))
def T_tprune  : Prop :=
 ∀ (x : Trie × Bool × List Bool × Int), PruneQ x.1 x.2.1 x.2.2.1 x.2.2.2 -> ∃ (I : Int × Trie -> Prop), ∃ (μ : Int × Trie -> Nat), (∃ (x_1 : Int × Trie), I x_1 /\ x.2.2.2 = x_1.1 /\ x.1.ar.length =
 x_1.2.ar.length /\ x.1.fr.length = x_1.2.fr.length /\ x.1.n = x_1.2.n /\ x.1.ar = x_1.2.ar /\ x.1.fr = x_1.2.fr /\ True) /\ ∀ (x_1 : Int × Trie), I x_1 -> ((0 : Int) <= x_1.1 /\ x_1.1 <
 (↑x_1.2.ar.length : Int)) /\ ifB (x_1.2.ar.getD x_1.1.toNat ((0 : Int), (0 : Int), (0 : Int), false, (0 : Int))).2.2.2.1 (H_SpTmt_3 x x_1) (ifB (decide ((x_1.2.ar.getD x_1.1.toNat ((0 : Int), (0 :
 Int), (0 : Int), false, (0 : Int))).2.2.1 = (-1 : Int))) (H_SpTmt_3 x x_1) (ifB (!(decide ((x_1.2.ar.getD x_1.1.toNat ((0 : Int), (0 : Int), (0 : Int), false, (0 : Int))).1 = (-1 : Int)) && decide
 ((x_1.2.ar.getD x_1.1.toNat ((0 : Int), (0 : Int), (0 : Int), false, (0 : Int))).2.1 = (-1 : Int)))) (H_SpTmt_3 x x_1) (((0 : Int) <= (x_1.2.ar.getD x_1.1.toNat ((0 : Int), (0 : Int), (0 : Int),
 false, (0 : Int))).2.2.1 /\ (x_1.2.ar.getD x_1.1.toNat ((0 : Int), (0 : Int), (0 : Int), false, (0 : Int))).2.2.1 < (↑x_1.2.ar.length : Int)) /\ ifB (decide ((x_1.2.ar.getD (x_1.2.ar.getD x_1.1.toNat
 ((0 : Int), (0 : Int), (0 : Int), false, (0 : Int))).2.2.1.toNat ((0 : Int), (0 : Int), (0 : Int), false, (0 : Int))).1 = x_1.1)) (((-9223372036854775808 : Int) <= (1 : Int) /\ (1 : Int) <=
 (9223372036854775807 : Int)) /\ ifB (decide (((x_1.2.ar.set (x_1.2.ar.getD x_1.1.toNat ((0 : Int), (0 : Int), (0 : Int), false, (0 : Int))).2.2.1.toNat ((-1 : Int), (x_1.2.ar.getD (x_1.2.ar.getD
 x_1.1.toNat ((0 : Int), (0 : Int), (0 : Int), false, (0 : Int))).2.2.1.toNat ((0 : Int), (0 : Int), (0 : Int), false, (0 : Int))).2.1, (x_1.2.ar.getD (x_1.2.ar.getD x_1.1.toNat ((0 : Int), (0 : Int),
 (0 : Int), false, (0 : Int))).2.2.1.toNat ((0 : Int), (0 : Int), (0 : Int), false, (0 : Int))).2.2.1, (x_1.2.ar.getD (x_1.2.ar.getD x_1.1.toNat ((0 : Int), (0 : Int), (0 : Int), false, (0 :
 Int))).2.2.1.toNat ((0 : Int), (0 : Int), (0 : Int), false, (0 : Int))).2.2.2.1, (x_1.2.ar.getD (x_1.2.ar.getD x_1.1.toNat ((0 : Int), (0 : Int), (0 : Int), false, (0 : Int))).2.2.1.toNat ((0 : Int),
 (0 : Int), (0 : Int), false, (0 : Int))).2.2.2.2)).getD (x_1.2.ar.getD x_1.1.toNat ((0 : Int), (0 : Int), (0 : Int), false, (0 : Int))).2.2.1.toNat ((0 : Int), (0 : Int), (0 : Int), false, (0 :
 Int))).2.1 = x_1.1)) (((-9223372036854775808 : Int) <= (2 : Int) /\ (2 : Int) <= (9223372036854775807 : Int)) /\ ((x_1.2.fr.length + [x_1.1].length) * (8 : Nat) <= (140737488355328 : Nat) /\
 x_1.2.fr.length + [x_1.1].length <= (140737488355328 : Nat)) /\ ∃ (y : Int × Trie), I y /\ μ y < μ x_1 /\ (x_1.2.ar.getD x_1.1.toNat ((0 : Int), (0 : Int), (0 : Int), false, (0 : Int))).2.2.1 = y.1 /\
 x_1.2.ar.length = y.2.ar.length /\ x_1.2.fr.length + [x_1.1].length = y.2.fr.length /\ x_1.2.n = y.2.n /\ (x_1.2.ar.set (x_1.2.ar.getD x_1.1.toNat ((0 : Int), (0 : Int), (0 : Int), false, (0 :
 Int))).2.2.1.toNat ((-1 : Int), (x_1.2.ar.getD (x_1.2.ar.getD x_1.1.toNat ((0 : Int), (0 : Int), (0 : Int), false, (0 : Int))).2.2.1.toNat ((0 : Int), (0 : Int), (0 : Int), false, (0 : Int))).2.1,
 (x_1.2.ar.getD (x_1.2.ar.getD x_1.1.toNat ((0 : Int), (0 : Int), (0 : Int), false, (0 : Int))).2.2.1.toNat ((0 : Int), (0 : Int), (0 : Int), false, (0 : Int))).2.2.1, (x_1.2.ar.getD (x_1.2.ar.getD
 x_1.1.toNat ((0 : Int), (0 : Int), (0 : Int), false, (0 : Int))).2.2.1.toNat ((0 : Int), (0 : Int), (0 : Int), false, (0 : Int))).2.2.2.1, (x_1.2.ar.getD (x_1.2.ar.getD x_1.1.toNat ((0 : Int), (0 :
 Int), (0 : Int), false, (0 : Int))).2.2.1.toNat ((0 : Int), (0 : Int), (0 : Int), false, (0 : Int))).2.2.2.2)).set (x_1.2.ar.getD x_1.1.toNat ((0 : Int), (0 : Int), (0 : Int), false, (0 :
 Int))).2.2.1.toNat (((x_1.2.ar.set (x_1.2.ar.getD x_1.1.toNat ((0 : Int), (0 : Int), (0 : Int), false, (0 : Int))).2.2.1.toNat ((-1 : Int), (x_1.2.ar.getD (x_1.2.ar.getD x_1.1.toNat ((0 : Int), (0 :
 Int), (0 : Int), false, (0 : Int))).2.2.1.toNat ((0 : Int), (0 : Int), (0 : Int), false, (0 : Int))).2.1, (x_1.2.ar.getD (x_1.2.ar.getD x_1.1.toNat ((0 : Int), (0 : Int), (0 : Int), false, (0 :
 Int))).2.2.1.toNat ((0 : Int), (0 : Int), (0 : Int), false, (0 : Int))).2.2.1, (x_1.2.ar.getD (x_1.2.ar.getD x_1.1.toNat ((0 : Int), (0 : Int), (0 : Int), false, (0 : Int))).2.2.1.toNat ((0 : Int), (0
 : Int), (0 : Int), false, (0 : Int))).2.2.2.1, (x_1.2.ar.getD (x_1.2.ar.getD x_1.1.toNat ((0 : Int), (0 : Int), (0 : Int), false, (0 : Int))).2.2.1.toNat ((0 : Int), (0 : Int), (0 : Int), false, (0 :
 Int))).2.2.2.2)).getD (x_1.2.ar.getD x_1.1.toNat ((0 : Int), (0 : Int), (0 : Int), false, (0 : Int))).2.2.1.toNat ((0 : Int), (0 : Int), (0 : Int), false, (0 : Int))).1, (-1 : Int), ((x_1.2.ar.set
 (x_1.2.ar.getD x_1.1.toNat ((0 : Int), (0 : Int), (0 : Int), false, (0 : Int))).2.2.1.toNat ((-1 : Int), (x_1.2.ar.getD (x_1.2.ar.getD x_1.1.toNat ((0 : Int), (0 : Int), (0 : Int), false, (0 :
 Int))).2.2.1.toNat ((0 : Int), (0 : Int), (0 : Int), false, (0 : Int))).2.1, (x_1.2.ar.getD (x_1.2.ar.getD x_1.1.toNat ((0 : Int), (0 : Int), (0 : Int), false, (0 : Int))).2.2.1.toNat ((0 : Int), (0 :
 Int), (0 : Int), false, (0 : Int))).2.2.1, (x_1.2.ar.getD (x_1.2.ar.getD x_1.1.toNat ((0 : Int), (0 : Int), (0 : Int), false, (0 : Int))).2.2.1.toNat ((0 : Int), (0 : Int), (0 : Int), false, (0 :
 Int))).2.2.2.1, (x_1.2.ar.getD (x_1.2.ar.getD x_1.1.toNat ((0 : Int), (0 : Int), (0 : Int), false, (0 : Int))).2.2.1.toNat ((0 : Int), (0 : Int), (0 : Int), false, (0 : Int))).2.2.2.2)).getD
 (x_1.2.ar.getD x_1.1.toNat ((0 : Int), (0 : Int), (0 : Int), false, (0 : Int))).2.2.1.toNat ((0 : Int), (0 : Int), (0 : Int), false, (0 : Int))).2.2.1, ((x_1.2.ar.set (x_1.2.ar.getD x_1.1.toNat ((0 :
 Int), (0 : Int), (0 : Int), false, (0 : Int))).2.2.1.toNat ((-1 : Int), (x_1.2.ar.getD (x_1.2.ar.getD x_1.1.toNat ((0 : Int), (0 : Int), (0 : Int), false, (0 : Int))).2.2.1.toNat ((0 : Int), (0 :
 Int), (0 : Int), false, (0 : Int))).2.1, (x_1.2.ar.getD (x_1.2.ar.getD x_1.1.toNat ((0 : Int), (0 : Int), (0 : Int), false, (0 : Int))).2.2.1.toNat ((0 : Int), (0 : Int), (0 : Int), false, (0 :
 Int))).2.2.1, (x_1.2.ar.getD (x_1.2.ar.getD x_1.1.toNat ((0 : Int), (0 : Int), (0 : Int), false, (0 : Int))).2.2.1.toNat ((0 : Int), (0 : Int), (0 : Int), false, (0 : Int))).2.2.2.1, (x_1.2.ar.getD
 (x_1.2.ar.getD x_1.1.toNat ((0 : Int), (0 : Int), (0 : Int), false, (0 : Int))).2.2.1.toNat ((0 : Int), (0 : Int), (0 : Int), false, (0 : Int))).2.2.2.2)).getD (x_1.2.ar.getD x_1.1.toNat ((0 : Int),
 (0 : Int), (0 : Int), false, (0 : Int))).2.2.1.toNat ((0 : Int), (0 : Int), (0 : Int), false, (0 : Int))).2.2.2.1, ((x_1.2.ar.set (x_1.2.ar.getD x_1.1.toNat ((0 : Int), (0 : Int), (0 : Int), false, (0
 : Int))).2.2.1.toNat ((-1 : Int), (x_1.2.ar.getD (x_1.2.ar.getD x_1.1.toNat ((0 : Int), (0 : Int), (0 : Int), false, (0 : Int))).2.2.1.toNat ((0 : Int), (0 : Int), (0 : Int), false, (0 : Int))).2.1,
 (x_1.2.ar.getD (x_1.2.ar.getD x_1.1.toNat ((0 : Int), (0 : Int), (0 : Int), false, (0 : Int))).2.2.1.toNat ((0 : Int), (0 : Int), (0 : Int), false, (0 : Int))).2.2.1, (x_1.2.ar.getD (x_1.2.ar.getD
 x_1.1.toNat ((0 : Int), (0 : Int), (0 : Int), false, (0 : Int))).2.2.1.toNat ((0 : Int), (0 : Int), (0 : Int), false, (0 : Int))).2.2.2.1, (x_1.2.ar.getD (x_1.2.ar.getD x_1.1.toNat ((0 : Int), (0 :
 Int), (0 : Int), false, (0 : Int))).2.2.1.toNat ((0 : Int), (0 : Int), (0 : Int), false, (0 : Int))).2.2.2.2)).getD (x_1.2.ar.getD x_1.1.toNat ((0 : Int), (0 : Int), (0 : Int), false, (0 :
 Int))).2.2.1.toNat ((0 : Int), (0 : Int), (0 : Int), false, (0 : Int))).2.2.2.2) = y.2.ar /\ x_1.2.fr ++ [x_1.1] = y.2.fr /\ True) (((-9223372036854775808 : Int) <= (2 : Int) /\ (2 : Int) <=
 (9223372036854775807 : Int)) /\ ((x_1.2.fr.length + [x_1.1].length) * (8 : Nat) <= (140737488355328 : Nat) /\ x_1.2.fr.length + [x_1.1].length <= (140737488355328 : Nat)) /\ ∃ (y : Int × Trie), I y /\
 μ y < μ x_1 /\ (x_1.2.ar.getD x_1.1.toNat ((0 : Int), (0 : Int), (0 : Int), false, (0 : Int))).2.2.1 = y.1 /\ x_1.2.ar.length = y.2.ar.length /\ x_1.2.fr.length + [x_1.1].length = y.2.fr.length /\
 x_1.2.n = y.2.n /\ x_1.2.ar.set (x_1.2.ar.getD x_1.1.toNat ((0 : Int), (0 : Int), (0 : Int), false, (0 : Int))).2.2.1.toNat ((-1 : Int), (x_1.2.ar.getD (x_1.2.ar.getD x_1.1.toNat ((0 : Int), (0 :
 Int), (0 : Int), false, (0 : Int))).2.2.1.toNat ((0 : Int), (0 : Int), (0 : Int), false, (0 : Int))).2.1, (x_1.2.ar.getD (x_1.2.ar.getD x_1.1.toNat ((0 : Int), (0 : Int), (0 : Int), false, (0 :
 Int))).2.2.1.toNat ((0 : Int), (0 : Int), (0 : Int), false, (0 : Int))).2.2.1, (x_1.2.ar.getD (x_1.2.ar.getD x_1.1.toNat ((0 : Int), (0 : Int), (0 : Int), false, (0 : Int))).2.2.1.toNat ((0 : Int), (0
 : Int), (0 : Int), false, (0 : Int))).2.2.2.1, (x_1.2.ar.getD (x_1.2.ar.getD x_1.1.toNat ((0 : Int), (0 : Int), (0 : Int), false, (0 : Int))).2.2.1.toNat ((0 : Int), (0 : Int), (0 : Int), false, (0 :
 Int))).2.2.2.2) = y.2.ar /\ x_1.2.fr ++ [x_1.1] = y.2.fr /\ True)) (((-9223372036854775808 : Int) <= (1 : Int) /\ (1 : Int) <= (9223372036854775807 : Int)) /\ ifB (decide ((x_1.2.ar.getD
 (x_1.2.ar.getD x_1.1.toNat ((0 : Int), (0 : Int), (0 : Int), false, (0 : Int))).2.2.1.toNat ((0 : Int), (0 : Int), (0 : Int), false, (0 : Int))).2.1 = x_1.1)) (((-9223372036854775808 : Int) <= (2 :
 Int) /\ (2 : Int) <= (9223372036854775807 : Int)) /\ ((x_1.2.fr.length + [x_1.1].length) * (8 : Nat) <= (140737488355328 : Nat) /\ x_1.2.fr.length + [x_1.1].length <= (140737488355328 : Nat)) /\ ∃ (y
 : Int × Trie), I y /\ μ y < μ x_1 /\ (x_1.2.ar.getD x_1.1.toNat ((0 : Int), (0 : Int), (0 : Int), false, (0 : Int))).2.2.1 = y.1 /\ x_1.2.ar.length = y.2.ar.length /\ x_1.2.fr.length + [x_1.1].length
 = y.2.fr.length /\ x_1.2.n = y.2.n /\ x_1.2.ar.set (x_1.2.ar.getD x_1.1.toNat ((0 : Int), (0 : Int), (0 : Int), false, (0 : Int))).2.2.1.toNat ((x_1.2.ar.getD (x_1.2.ar.getD x_1.1.toNat ((0 : Int), (0
 : Int), (0 : Int), false, (0 : Int))).2.2.1.toNat ((0 : Int), (0 : Int), (0 : Int), false, (0 : Int))).1, (-1 : Int), (x_1.2.ar.getD (x_1.2.ar.getD x_1.1.toNat ((0 : Int), (0 : Int), (0 : Int), false,
 (0 : Int))).2.2.1.toNat ((0 : Int), (0 : Int), (0 : Int), false, (0 : Int))).2.2.1, (x_1.2.ar.getD (x_1.2.ar.getD x_1.1.toNat ((0 : Int), (0 : Int), (0 : Int), false, (0 : Int))).2.2.1.toNat ((0 :
 Int), (0 : Int), (0 : Int), false, (0 : Int))).2.2.2.1, (x_1.2.ar.getD (x_1.2.ar.getD x_1.1.toNat ((0 : Int), (0 : Int), (0 : Int), false, (0 : Int))).2.2.1.toNat ((0 : Int), (0 : Int), (0 : Int),
 false, (0 : Int))).2.2.2.2) = y.2.ar /\ x_1.2.fr ++ [x_1.1] = y.2.fr /\ True) (((-9223372036854775808 : Int) <= (2 : Int) /\ (2 : Int) <= (9223372036854775807 : Int)) /\ ((x_1.2.fr.length +
 [x_1.1].length) * (8 : Nat) <= (140737488355328 : Nat) /\ x_1.2.fr.length + [x_1.1].length <= (140737488355328 : Nat)) /\ ∃ (y : Int × Trie), I y /\ μ y < μ x_1 /\ (x_1.2.ar.getD x_1.1.toNat ((0 :
 Int), (0 : Int), (0 : Int), false, (0 : Int))).2.2.1 = y.1 /\ x_1.2.ar.length = y.2.ar.length /\ x_1.2.fr.length + [x_1.1].length = y.2.fr.length /\ x_1.2.n = y.2.n /\ x_1.2.ar = y.2.ar /\ x_1.2.fr ++
 [x_1.1] = y.2.fr /\ True)))))
def T_tdel  : Prop :=
 ∀ (x : Trie × Pf), (TR x.1.ar x.1.fr x.1.t0 x.1.t1 /\ x.1.ar.length <= (1000000 : Nat) /\ x.1.fr.length <= (1000000 : Nat) /\ (0 : Int) <= x.1.n /\ x.1.n <= (1000000 : Int)) /\ ((0 : Int) <= (pA
 x.2).1 /\ (pA x.2).1 < (18446744073709551616 : Int)) /\ (0 : Int) <= (pA x.2).2.1 /\ (pA x.2).2.1 < (18446744073709551616 : Int) -> ∃ (x_1 : Int × Int × Bool × Int), x.2.1 = x_1.1 /\ x.2.2.1 = x_1.2.1
 /\ x.2.2.2.1 = x_1.2.2.1 /\ x.2.2.2.2 = x_1.2.2.2 /\ (((0 : Int) <= (pA x_1).1 /\ (pA x_1).1 < (18446744073709551616 : Int)) /\ (0 : Int) <= (pA x_1).2.1 /\ (pA x_1).2.1 < (18446744073709551616 :
 Int)) /\ ∀ (y : Unit), True -> ifB (!saneP x_1) (∃ (y : Trie), (ifB (saneP x.2) (DelP x.1 x.2 y) (y = x.1)) /\ ((1 : Int) = if saneP x.2 = true then if (x.1.get x.2.2.2.1 (bitsP x.2)).isSome = true
 then (0 : Int) else (2 : Int) else (1 : Int)) /\ x.1.ar.length = y.ar.length /\ x.1.fr.length = y.fr.length /\ x.1.n = y.n /\ x.1.ar = y.ar /\ x.1.fr = y.fr /\ True) (∃ (x_2 : Trie × Pf), x.2.1 =
 x_2.2.1 /\ x.2.2.1 = x_2.2.2.1 /\ x.2.2.2.1 = x_2.2.2.2.1 /\ x.2.2.2.2 = x_2.2.2.2.2 /\ x.1.ar.length = x_2.1.ar.length /\ x.1.fr.length = x_2.1.fr.length /\ x.1.n = x_2.1.n /\ x.1.ar = x_2.1.ar /\
 x.1.fr = x_2.1.fr /\ (TR x_2.1.ar x_2.1.fr x_2.1.t0 x_2.1.t1 /\ ((0 : Int) <= (pA x_2.2).1 /\ (pA x_2.2).1 < (18446744073709551616 : Int)) /\ (0 : Int) <= (pA x_2.2).2.1 /\ (pA x_2.2).2.1 <
 (18446744073709551616 : Int)) /\ ∀ (y : Unit), True -> ifB (decide ((x_2.1.at' x_2.2).ix = (-1 : Int))) (H_SpTmt_2 x) (((0 : Int) <= (x_2.1.at' x_2.2).ix /\ (x_2.1.at' x_2.2).ix < (↑x.1.ar.length :
 Int)) /\ ifB (!(x.1.ar.getD (x_2.1.at' x_2.2).ix.toNat ((0 : Int), (0 : Int), (0 : Int), false, (0 : Int))).2.2.2.1) (H_SpTmt_2 x) (((0 : Int) <= (x_2.1.at' x_2.2).ix /\ (x_2.1.at' x_2.2).ix <
 (↑x.1.ar.length : Int)) /\ ((-9223372036854775808 : Int) <= x.1.n - (1 : Int) /\ x.1.n - (1 : Int) <= (9223372036854775807 : Int)) /\ ∃ (x_3 : Trie × Bool × List Bool × Int), (x_2.1.at' x_2.2).ix =
 x_3.2.2.2 /\ x.1.ar.length = x_3.1.ar.length /\ x.1.fr.length = x_3.1.fr.length /\ x.1.n - (1 : Int) = x_3.1.n /\ x.1.ar.set (x_2.1.at' x_2.2).ix.toNat ((x.1.ar.getD (x_2.1.at' x_2.2).ix.toNat ((0 :
 Int), (0 : Int), (0 : Int), false, (0 : Int))).1, (x.1.ar.getD (x_2.1.at' x_2.2).ix.toNat ((0 : Int), (0 : Int), (0 : Int), false, (0 : Int))).2.1, (x.1.ar.getD (x_2.1.at' x_2.2).ix.toNat ((0 : Int),
 (0 : Int), (0 : Int), false, (0 : Int))).2.2.1, false, (x.1.ar.getD (x_2.1.at' x_2.2).ix.toNat ((0 : Int), (0 : Int), (0 : Int), false, (0 : Int))).2.2.2.2) = x_3.1.ar /\ x.1.fr = x_3.1.fr /\ PruneQ
 x_3.1 x_3.2.1 x_3.2.2.1 x_3.2.2.2 /\ ∀ (y : Trie), PruneP x_3.1 x_3.2.2.1 y -> ∃ (y_1 : Trie), (ifB (saneP x.2) (DelP x.1 x.2 y_1) (y_1 = x.1)) /\ ((0 : Int) = if saneP x.2 = true then if (x.1.get
 x.2.2.2.1 (bitsP x.2)).isSome = true then (0 : Int) else (2 : Int) else (1 : Int)) /\ y.ar.length = y_1.ar.length /\ y.fr.length = y_1.fr.length /\ y.n = y_1.n /\ y.ar = y_1.ar /\ y.fr = y_1.fr /\
 True)))
def T_tlen  : Prop :=
 ∀ (x : Trie), TR x.ar x.fr x.t0 x.t1 -> ∃ (x_1 : Trie), x.ar.length = x_1.ar.length /\ x.fr.length = x_1.fr.length /\ x.n = x_1.n /\ x.ar = x_1.ar /\ x.fr = x_1.fr /\ TR x_1.ar x_1.fr x_1.t0 x_1.t1 /\
 ∀ (y : Unit), True -> ∃ (y : Unit), True /\ x.n = x.n /\ True
theorem o_ttake : owes Tryz.prog (tab T2) LqTm 1 224 Tryz.f224 TakeT = T_ttake := by kernel_rfl
theorem o_tput : owes Tryz.prog (tab T3) LqTm 0 160 Tryz.f160 PutT = T_tput := by kernel_rfl
theorem o_tprune : owes Tryz.prog (tab T2) LqTm 0 265 Tryz.f265 PruneT = T_tprune := by kernel_rfl
theorem o_tdel : owes Tryz.prog (tab T3) LqTm 0 211 Tryz.f211 DelT = T_tdel := by kernel_rfl
theorem o_tlen : owes Tryz.prog (tab T2) LqTm 0 263 Tryz.f263 LenT = T_tlen := by kernel_rfl
end Sp
end
section
set_option linter.all false
set_option maxRecDepth 10000
namespace Sp
open Go Go.Proofs Sx Go.Proofs.YthnhbnakpmkppaaGreat.Ma
def ts0 (t0 : Tr) (v6 : Bool) (s : Tr) : Tr := if v6 = true then t0 else s
def ts1 (t1 : Tr) (v6 : Bool) (s : Tr) : Tr := if v6 = true then s else t1
theorem tsel_set (t0 t1 s : Tr) (v6 v : Bool) : tsel (ts0 t0 v6 s) (ts1 t1 v6 s) v = if v = v6 then s else tsel t0 t1 v := by
  cases v6 <;> cases v <;> rfl
theorem ix_node {t : Tr} {n : Nat} (h : t.ix = n) : ∃ e l r, t = .node n e l r := by
  cases t with
  | nil => simp only [Tr.ix] at h; omega
  | node i e l r =>
    simp only [Tr.ix] at h
    obtain rfl : i = n := by omega
    exact ⟨e, l, r, rfl⟩
theorem TRb.sel {ar : List Nd} {fr : List Int} {t0 t1 : Tr} (h : TRb ar fr t0 t1) (v6 : Bool) : (tsel t0 t1 v6).Rep ar (-1) ∧ (tsel t0 t1 v6).Deep (wd v6) ∧ ((tsel t0 t1 v6).ids ++ ((tsel t0 t1 (!v6)).ids ++ fr.map Int.toNat)).Nodup := by
  have hn := h.ids
  rw [List.append_assoc] at hn
  cases v6 with
  | false => exact ⟨h.rep0, h.deep0, hn⟩
  | true =>
    refine ⟨h.rep1, h.deep1, ?_⟩
    have : (t0.ids ++ (t1.ids ++ fr.map Int.toNat)).Perm (t1.ids ++ (t0.ids ++ fr.map Int.toNat)) := by
      rw [← List.append_assoc, ← List.append_assoc]
      exact List.perm_append_comm.append_right _
    exact this.nodup_iff.1 hn
theorem TRb.mk' {ar : List Nd} {fr : List Int} {t0 t1 : Tr} (v6 : Bool) (r0 : (tsel t0 t1 false).ix = (0 : Nat)) (r1 : (tsel t0 t1 true).ix = (1 : Nat)) (h : ∀ v, (tsel t0 t1 v).Rep ar (-1) ∧ (tsel t0 t1 v).Deep (wd v))
    (hn : ((tsel t0 t1 v6).ids ++ ((tsel t0 t1 (!v6)).ids ++ fr.map Int.toNat)).Nodup) (hf : ∀ x ∈ fr, 0 ≤ x ∧ x.toNat < ar.length) (hb : ar.length ≤ 2000000 ∧ fr.length ≤ 2000000) : TRb ar fr t0 t1 := by
  refine ⟨ix_node r0, ix_node r1, (h false).1, (h true).1, (h false).2, (h true).2, ?_, hf, hb⟩
  rw [List.append_assoc]
  cases v6 with
  | false => exact hn
  | true =>
    have : (t1.ids ++ (t0.ids ++ fr.map Int.toNat)).Perm (t0.ids ++ (t1.ids ++ fr.map Int.toNat)) := by
      rw [← List.append_assoc, ← List.append_assoc]
      exact List.perm_append_comm.append_right _
    exact this.nodup_iff.1 hn
theorem sub_ids {t : Tr} {p : List Bool} (h : t.sub p ≠ .nil) : ∃ rest : List Nat, t.ids.Perm ((t.sub p).ids ++ rest) ∧ ∀ s : Tr, (Tr.upd (fun _ => s) p t).ids.Perm (s.ids ++ rest) := by
  obtain ⟨rest, hr⟩ := Tr.upd_ids p t h
  have := hr id
  rw [Tr.upd_id] at this
  exact ⟨rest, this, fun s => hr fun _ => s⟩
theorem TRb.change {ar ar' : List Nd} {fr fr' : List Int} {t0 t1 : Tr} (h : TRb ar fr t0 t1) {v6 : Bool} {p : List Bool} {i : Nat} {e e' : Option Int} {l r l' r' : Tr} (hs : (tsel t0 t1 v6).sub p = .node i e l r)
    (hk : ∀ v, ∀ k ∈ (tsel t0 t1 v).ids, k ∉ (Tr.node i e l r).ids → k < ar'.length ∧ ar'.getD k nd0 = ar.getD k nd0)
    (hrep : (Tr.node i e' l' r').Rep ar' ((tsel t0 t1 v6).upOf (-1) p)) (hdeep : (Tr.node i e' l' r').Deep (wd v6 - p.length))
    (hnd : ∀ rest : List Nat, (∀ k ∈ rest, ∃ v, k ∈ (tsel t0 t1 v).ids) → ((Tr.node i e l r).ids ++ (rest ++ fr.map Int.toNat)).Nodup → ((Tr.node i e' l' r').ids ++ (rest ++ fr'.map Int.toNat)).Nodup)
    (hfr : ∀ x ∈ fr', 0 ≤ x ∧ x.toNat < ar'.length) (hbig : ar'.length ≤ 2000000 ∧ fr'.length ≤ 2000000) :
    TRb ar' fr' (ts0 t0 v6 (Tr.upd (fun _ => .node i e' l' r') p (tsel t0 t1 v6))) (ts1 t1 v6 (Tr.upd (fun _ => .node i e' l' r') p (tsel t0 t1 v6))) := by
  have hne : (tsel t0 t1 v6).sub p ≠ .nil := by rw [hs]; exact fun k => by cases k
  obtain ⟨h1, h2, h3⟩ := h.sel v6
  have hix : (Tr.upd (fun _ => .node i e' l' r') p (tsel t0 t1 v6)).ix = (tsel t0 t1 v6).ix := Tr.upd_ix (by rw [hs]; rfl)
  have hroot : ∀ v, (tsel (ts0 t0 v6 (Tr.upd (fun _ => .node i e' l' r') p (tsel t0 t1 v6))) (ts1 t1 v6 (Tr.upd (fun _ => .node i e' l' r') p (tsel t0 t1 v6))) v).ix = if v = true then 1 else 0 := by
    intro v
    rw [tsel_set]
    split
    · rename_i hv; rw [hix, hv]; exact (h.root v6).1
    · exact (h.root v).1
  obtain ⟨rest, q1, q2⟩ := sub_ids hne
  rw [hs] at q1
  have hdis : ∀ k ∈ (tsel t0 t1 (!v6)).ids, k ∉ (Tr.node i e l r).ids := by
    intro k hk1 hk2
    have := (List.nodup_append.1 h3).2.2 k (q1.mem_iff.2 (List.mem_append_left _ hk2)) k (List.mem_append_left _ hk1)
    exact this rfl
  refine TRb.mk' v6 (hroot false) (hroot true) (fun v => ?_) ?_ hfr hbig
  · rw [tsel_set]
    split
    · rename_i hv
      subst hv
      refine ⟨Tr.upd_rep h1 (List.nodup_append.1 h3).1 hne (fun k hk1 hk2 => hk v k hk1 (by rw [hs] at hk2; exact hk2)) (by rw [hs]; rfl) hrep, Tr.upd_deep h2 hne hdeep⟩
    · rename_i hv
      have hv : v = !v6 := by cases v <;> cases v6 <;> first | rfl | exact absurd rfl hv
      subst hv
      exact ⟨Tr.rep_same (h.sel (!v6)).1 fun k hk1 => hk _ k hk1 (hdis k hk1), (h.sel (!v6)).2.1⟩
  · rw [tsel_set, tsel_set, if_pos rfl, if_neg (by cases v6 <;> decide)]
    have a1 : ((tsel t0 t1 v6).ids ++ ((tsel t0 t1 (!v6)).ids ++ fr.map Int.toNat)).Perm ((Tr.node i e l r).ids ++ ((rest ++ (tsel t0 t1 (!v6)).ids) ++ fr.map Int.toNat)) := by
      have := q1.append_right ((tsel t0 t1 (!v6)).ids ++ fr.map Int.toNat)
      rw [List.append_assoc, ← List.append_assoc rest] at this
      exact this
    have a2 : ((Tr.upd (fun _ => .node i e' l' r') p (tsel t0 t1 v6)).ids ++ ((tsel t0 t1 (!v6)).ids ++ fr'.map Int.toNat)).Perm ((Tr.node i e' l' r').ids ++ ((rest ++ (tsel t0 t1 (!v6)).ids) ++ fr'.map Int.toNat)) := by
      have := (q2 (Tr.node i e' l' r')).append_right ((tsel t0 t1 (!v6)).ids ++ fr'.map Int.toNat)
      rw [List.append_assoc, ← List.append_assoc rest] at this
      exact this
    refine a2.nodup_iff.2 (hnd _ (fun k hk1 => ?_) (a1.nodup_iff.1 h3))
    rcases List.mem_append.1 hk1 with hk1 | hk1
    · exact ⟨v6, q1.mem_iff.2 (List.mem_append_right _ hk1)⟩
    · exact ⟨!v6, hk1⟩
theorem change_get {t0 t1 : Tr} {v6 : Bool} {p : List Bool} {i : Nat} {e e' : Option Int} {l r l' r' : Tr} (hs : (tsel t0 t1 v6).sub p = .node i e l r) (hk : ∀ b q, ((Tr.node i e' l' r').sub (b :: q)).ent = ((Tr.node i e l r).sub (b :: q)).ent) (v : Bool) (q : List Bool) :
    (tsel (ts0 t0 v6 (Tr.upd (fun _ => .node i e' l' r') p (tsel t0 t1 v6))) (ts1 t1 v6 (Tr.upd (fun _ => .node i e' l' r') p (tsel t0 t1 v6))) v).get q = if v = v6 ∧ q = p then e' else (tsel t0 t1 v).get q := by
  have hne : (tsel t0 t1 v6).sub p ≠ .nil := by rw [hs]; exact fun k => by cases k
  rw [tsel_set]
  by_cases hv : v = v6
  · subst hv
    rw [if_pos rfl]
    by_cases hp : p <+: q
    · obtain ⟨s, rfl⟩ := hp
      rw [Tr.upd_get_at s hne]
      cases s with
      | nil => rw [List.append_nil, if_pos ⟨rfl, rfl⟩]; rfl
      | cons b s =>
        rw [if_neg (fun k => by simp at k)]
        unfold Tr.get
        rw [Tr.sub_app, hs]
        exact hk b s
    · rw [Tr.upd_get hne (fun k => by cases k) hp, if_neg (fun k => hp (by rw [k.2]; exact List.prefix_refl _))]
  · rw [if_neg hv, if_neg (fun k => hv k.1)]
theorem change_live {t0 t1 : Tr} {v6 : Bool} {p d d' : List Bool} {i : Nat} {e e' : Option Int} {l r l' r' : Tr} (hs : (tsel t0 t1 v6).sub p = .node i e l r) (hl : ∀ v, LiveB (tsel t0 t1 v) (if v = v6 then d else []))
    (h1 : ∀ s i1 e1 l1 r1, p ++ s ≠ [] → p ++ s ≠ d' → (Tr.node i e' l' r').sub s = .node i1 e1 l1 r1 → e1.isSome = true ∨ l1 ≠ .nil ∨ r1 ≠ .nil) (h2 : ∀ q, ¬ p <+: q → q ≠ [] → q ≠ d' → q ≠ d) (v : Bool) :
    LiveB (tsel (ts0 t0 v6 (Tr.upd (fun _ => .node i e' l' r') p (tsel t0 t1 v6))) (ts1 t1 v6 (Tr.upd (fun _ => .node i e' l' r') p (tsel t0 t1 v6))) v) (if v = v6 then d' else []) := by
  have hne : (tsel t0 t1 v6).sub p ≠ .nil := by rw [hs]; exact fun k => by cases k
  intro q i1 e1 l1 r1 hq0 hqd hsub
  rw [tsel_set] at hsub
  by_cases hv : v = v6
  · subst hv
    rw [if_pos rfl] at hsub hqd
    by_cases hp : p <+: q
    · obtain ⟨s, rfl⟩ := hp
      rw [Tr.upd_at s hne] at hsub
      exact h1 s i1 e1 l1 r1 hq0 hqd hsub
    · have := Tr.upd_else (f := fun _ => Tr.node i e' l' r') hne (fun k => by cases k) hp
      rw [hsub] at this
      cases hq : (tsel t0 t1 v).sub q with
      | nil => rw [hq] at this; exact this.elim
      | node i0 e0 l0 r0 =>
        rw [hq] at this
        obtain ⟨_, rfl, hl1, hr1⟩ := this
        have := hl v q i0 e0 l0 r0 hq0 (by rw [if_pos rfl]; exact h2 q hp hq0 hqd) hq
        rcases this with h | h | h
        · exact .inl h
        · exact .inr (.inl fun k => h (hl1.2 k))
        · exact .inr (.inr fun k => h (hr1.2 k))
  · rw [if_neg hv] at hsub hqd
    exact hl v q i1 e1 l1 r1 hq0 (by rw [if_neg hv]; exact hqd) hsub
end Sp
end
section
set_option linter.all false
set_option maxRecDepth 10000
namespace Sp
open Go Go.Proofs Sx Go.Proofs.YthnhbnakpmkppaaGreat.Ma
theorem last_of {l : List Int} (h : l ≠ []) : l.getD (l.length - 1) 0 = l.getLastD 0 ∧ l.take (l.length - 1) = l.dropLast ∧ l = l.dropLast ++ [l.getLastD 0] := by
  rcases List.eq_nil_or_concat l with rfl | ⟨m, x, rfl⟩
  · exact absurd rfl h
  · rw [List.concat_eq_append]
    refine ⟨?_, ?_, ?_⟩
    · rw [List.getLastD_concat, List.length_append, List.length_singleton, Nat.add_sub_cancel, List.getD_eq_getElem?_getD, List.getElem?_append_right (Nat.le_refl _), Nat.sub_self]
      rfl
    · rw [List.dropLast_concat, List.length_append, List.length_singleton, Nat.add_sub_cancel, List.take_left]
    · rw [List.dropLast_concat, List.getLastD_concat]
theorem take_nil {t : Trie} (h : t.fr = []) (up : Int) : t.take up = { t with ar := t.ar ++ [frn up] } ∧ t.takeAt = t.ar.length := by
  obtain ⟨ar, fr, n, t0, t1⟩ := t
  dsimp only at h
  subst h
  exact ⟨rfl, rfl⟩
theorem take_some {t : Trie} (h : t.fr ≠ []) (up : Int) : t.take up = { t with ar := t.ar.set (t.fr.getLastD 0).toNat (frn up), fr := t.fr.dropLast } ∧ t.takeAt = t.fr.getLastD 0 := by
  obtain ⟨ar, fr, n, t0, t1⟩ := t
  cases fr with
  | nil => exact absurd rfl h
  | cons a fr => exact ⟨rfl, rfl⟩
theorem getLastD_mem {l : List Int} (h : l ≠ []) : l.getLastD 0 ∈ l := by
  have := (last_of h).2.2
  have h2 : l.getLastD 0 ∈ l.dropLast ++ [l.getLastD 0] := List.mem_append_right _ (List.mem_singleton.2 rfl)
  rwa [← this] at h2
theorem p_ttake : T_ttake := by
  rintro ⟨t, up⟩ ⟨hf, h1, h2⟩
  dsimp only at hf h1 h2 ⊢
  refine ifB_d (fun h => ?_) fun h => ?_
  · have hne : t.fr ≠ [] := by intro k; rw [k] at h; simp at h
    obtain ⟨e1, e2, _⟩ := last_of hne
    obtain ⟨q1, q2⟩ := take_some hne up
    have hv := hf _ (getLastD_mem hne)
    rw [show ((t.fr.length : Int) - 1).toNat = t.fr.length - 1 by omega, e1, e2, q1, q2]
    refine ⟨by omega, by omega, by omega, by omega, by omega, (), trivial, rfl, by rw [List.length_set], by rw [List.length_dropLast]; omega, rfl, rfl, rfl, trivial⟩
  · have hne : t.fr = [] := List.eq_nil_of_length_eq_zero (by omega)
    obtain ⟨q1, q2⟩ := take_nil hne up
    rw [q1, q2]
    refine ⟨⟨by rw [List.length_singleton]; omega, by rw [List.length_singleton]; omega⟩, by rw [List.length_singleton]; omega, (), trivial, by rw [List.length_singleton]; omega, by rw [List.length_append]; rfl, rfl, rfl, rfl, rfl, trivial⟩
theorem p_tlen : T_tlen := by
  intro t ht
  exact ⟨t, rfl, rfl, rfl, rfl, rfl, ht, fun _ _ => ⟨(), trivial, rfl, trivial⟩⟩
/-! ### a new leaf -/
theorem ids_lt {ar : List Nd} {fr : List Int} {t0 t1 : Tr} (h : TRb ar fr t0 t1) {v : Bool} {k : Nat} (hk : k ∈ (tsel t0 t1 v).ids) : k < ar.length := rep_ids (h.sel v).1 k hk
theorem getD_set {l : List Nd} {i k : Nat} {z : Nd} : (l.set i z).getD k nd0 = if i = k ∧ i < l.length then z else l.getD k nd0 := by
  rw [List.getD_eq_getElem?_getD, List.getElem?_set]
  by_cases h : i = k
  · subst h
    by_cases h2 : i < l.length
    · rw [if_pos rfl, if_pos h2, if_pos ⟨rfl, h2⟩]; rfl
    · rw [if_pos rfl, if_neg h2, if_neg (fun k => h2 k.2), List.getD_eq_getElem?_getD, List.getElem?_eq_none (by omega)]
  · rw [if_neg h, if_neg (fun k => h k.1), ← List.getD_eq_getElem?_getD]
structure Took (u : Trie) (up : Int) (j : Nat) : Prop where
  at' : u.takeAt = j
  lt : j < (u.take up).ar.length
  new : (u.take up).ar.getD j nd0 = frn up
  old : ∀ k, k < u.ar.length → k ≠ j → k < (u.take up).ar.length ∧ (u.take up).ar.getD k nd0 = u.ar.getD k nd0
  nd : ∀ L : List Nat, (∀ k ∈ L, k < u.ar.length) → (L ++ u.fr.map Int.toNat).Nodup → (j :: (L ++ (u.take up).fr.map Int.toNat)).Nodup
  more : (u.take up).ar.length ≤ u.ar.length + 1 ∧ u.ar.length ≤ (u.take up).ar.length ∧ (u.take up).fr.length ≤ u.fr.length
  fr : ∀ x ∈ (u.take up).fr, x ∈ u.fr
  n : (u.take up).n = u.n
theorem took {u : Trie} (h : TRb u.ar u.fr u.t0 u.t1) (up : Int) : ∃ j, Took u up j := by
  by_cases hne : u.fr = []
  · obtain ⟨q1, q2⟩ := take_nil hne up
    refine ⟨u.ar.length, q2, ?_, ?_, ?_, ?_, ?_, ?_, ?_⟩
    · rw [q1]; simp
    · rw [q1, List.getD_eq_getElem?_getD, List.getElem?_append_right (Nat.le_refl _), Nat.sub_self]; rfl
    · intro k hk _
      rw [q1]
      refine ⟨by simp; omega, ?_⟩
      rw [List.getD_eq_getElem?_getD, List.getElem?_append_left hk, ← List.getD_eq_getElem?_getD]
    · intro L hL hn
      rw [q1]
      dsimp only
      refine List.nodup_cons.2 ⟨fun hm => ?_, hn⟩
      rw [hne] at hm
      simp only [List.map_nil, List.append_nil] at hm
      have := hL _ hm
      omega
    · rw [q1]; simp
    · rw [q1]; exact fun x hx => hx
    · rw [q1]
  · obtain ⟨q1, q2⟩ := take_some hne up
    obtain ⟨e1, e2, e3⟩ := last_of hne
    have hv := h.frl _ (getLastD_mem hne)
    refine ⟨(u.fr.getLastD 0).toNat, by rw [q2]; omega, ?_, ?_, ?_, ?_, ?_, ?_, ?_⟩
    · rw [q1]; simpa using hv.2
    · rw [q1]; dsimp only; rw [getD_set, if_pos ⟨rfl, hv.2⟩]
    · intro k hk hkj
      rw [q1]
      refine ⟨by simpa using hk, ?_⟩
      dsimp only
      rw [getD_set, if_neg (fun z => hkj z.1.symm)]
    · intro L hL hn
      rw [q1]
      dsimp only
      have hp : (L ++ u.fr.map Int.toNat).Perm ((u.fr.getLastD 0).toNat :: (L ++ u.fr.dropLast.map Int.toNat)) := by
        conv => lhs; rw [e3]
        rw [List.map_append, ← List.append_assoc]
        exact List.perm_append_comm
      exact hp.nodup_iff.1 hn
    · rw [q1]; simp
    · rw [q1]; exact fun x hx => List.dropLast_subset _ hx
    · rw [q1]
def leaf (j : Nat) : Tr := .node j none .nil .nil
theorem leaf_ent (j : Nat) (q : List Bool) : ((leaf j).sub q).ent = none := by
  cases q with
  | nil => rfl
  | cons b q =>
    rw [Tr.sub_cons]
    show ((if b = true then Tr.nil else Tr.nil).sub q).ent = none
    rw [ite_self, Tr.sub_nil]
    rfl
theorem nil_deep (n : Nat) : Tr.nil.Deep n := by cases n <;> trivial
theorem leaf_deep (j n : Nat) : (leaf j).Deep n := by
  cases n with
  | zero => exact ⟨rfl, rfl⟩
  | succ n => exact ⟨nil_deep n, nil_deep n⟩
structure PutI (t : Trie) (p : Pf) (n : Nat) (at' : Int) (u : Trie) : Prop where
  base : TRb u.ar u.fr u.t0 u.t1
  live : ∀ v, LiveB (tsel u.t0 u.t1 v) (if v = p.2.2.1 then (bitsP p).take n else [])
  get : ∀ v q, u.get v q = t.get v q
  num : u.n = t.n
  node : (u.sel p).sub ((bitsP p).take n) ≠ .nil
  here : at' = ((u.sel p).sub ((bitsP p).take n)).ix
  more : u.ar.length ≤ t.ar.length + n ∧ u.fr.length ≤ t.fr.length
theorem grow_step {t u : Trie} {p : Pf} {n : Nat} {at' : Int} (hs : saneP p = true) (h : PutI t p n at' u) (hn : (n : Int) < p.2.2.2) (hbig : t.ar.length ≤ 1000000 ∧ t.fr.length ≤ 1000000) {i : Nat} {e : Option Int} {l r : Tr} (hsub : (u.sel p).sub ((bitsP p).take n) = .node i e l r)
    (hkid : (if (bitsA (pA p)).getD n false = true then r else l) = .nil) {ar2 : List Nd}
    (har2 : ar2 = (u.take at').ar.set at'.toNat (if (bitsA (pA p)).getD n false = true then (((u.take at').ar.getD at'.toNat nd0).1, u.takeAt, ((u.take at').ar.getD at'.toNat nd0).2.2) else (u.takeAt, ((u.take at').ar.getD at'.toNat nd0).2))) :
    ∃ u2 : Trie, u2.ar = ar2 ∧ u2.fr = (u.take at').fr ∧ u2.n = (u.take at').n ∧ PutI t p (n + 1) u.takeAt u2 ∧ at' < ((u.take at').ar.length : Int) ∧ 0 ≤ at' := by
  obtain ⟨_, n0, n1⟩ := sane_iff.1 hs
  have hl := bitsP_length hs
  have hwd := wd_le p.2.2.1
  have hat : at' = (i : Int) := by rw [h.here, hsub]; rfl
  subst hat
  obtain ⟨j, T⟩ := took h.base (i : Int)
  obtain ⟨hi, v, up, har, hv, _⟩ := h.base.node (v6 := p.2.2.1) hsub
  have hsub' : (tsel u.t0 u.t1 p.2.2.1).sub ((bitsP p).take n) = .node i e l r := hsub
  have hne : (tsel u.t0 u.t1 p.2.2.1).sub ((bitsP p).take n) ≠ .nil := by rw [hsub']; exact fun k => by cases k
  obtain ⟨hR, hD, hN⟩ := h.base.sel p.2.2.1
  -- the node's own places
  obtain ⟨rest, q1, _⟩ := sub_ids hne
  rw [hsub'] at q1
  have inR : ∀ k ∈ (Tr.node i e l r).ids, k ∈ (tsel u.t0 u.t1 p.2.2.1).ids := fun k hk => q1.mem_iff.2 (List.mem_append_left _ hk)
  have nodN : (Tr.node i e l r).ids.Nodup := (List.nodup_append.1 (q1.nodup_iff.1 (List.nodup_append.1 hN).1)).1
  have jnot : ∀ v k, k ∈ (tsel u.t0 u.t1 v).ids → k ≠ j := by
    rintro v k hk rfl
    obtain ⟨_, _, hN'⟩ := h.base.sel v
    have hN' : ((tsel u.t0 u.t1 v).ids ++ u.fr.map Int.toNat).Nodup := by
      have := List.nodup_append.1 hN'
      exact List.nodup_append.2 ⟨this.1, (List.nodup_append.1 this.2.1).2.1, fun a ha b hb => this.2.2 a ha b (List.mem_append_right _ hb)⟩
    have := List.nodup_cons.1 (T.nd _ (fun k hk => ids_lt h.base hk) hN')
    exact this.1 (List.mem_append_left _ hk)
  have iin : i ∈ (tsel u.t0 u.t1 p.2.2.1).ids := inR i (by simp [Tr.ids])
  have hij : i ≠ j := jnot _ _ iin
  obtain ⟨hilt, hig⟩ := T.old i hi hij
  have hiT : ((i : Int)).toNat = i := rfl
  rw [hiT, hig, har] at har2
  have len2 : ar2.length = (u.take (i : Int)).ar.length := by rw [har2, List.length_set]
  have get2 : ∀ k, k < u.ar.length → k ≠ i → k ≠ j → k < ar2.length ∧ ar2.getD k nd0 = u.ar.getD k nd0 := by
    intro k hk hki hkj
    obtain ⟨a, b⟩ := T.old k hk hkj
    refine ⟨by rw [len2]; exact a, ?_⟩
    rw [har2, getD_set, if_neg (fun z => hki z.1.symm)]
    exact b
  have getj : j < ar2.length ∧ ar2.getD j nd0 = frn (i : Int) := by
    refine ⟨by rw [len2]; exact T.lt, ?_⟩
    rw [har2, getD_set, if_neg (fun z => hij z.1)]
    exact T.new
  have upE : (tsel u.t0 u.t1 p.2.2.1).upOf (-1) ((bitsP p).take n) = up := by
    have := Tr.rep_at (p := (bitsP p).take n) hR
    rw [hsub'] at this
    obtain ⟨⟨_, v2, h2, _⟩, _⟩ := this
    rw [har] at h2
    exact (congrArg (fun z : Nd => z.2.2.1) h2).symm
  obtain ⟨hRl, hRr⟩ : l.Rep u.ar i ∧ r.Rep u.ar i := by
    have := Tr.rep_at (p := (bitsP p).take n) hR
    rw [hsub'] at this
    exact this.2
  have same : ∀ s : Tr, s.Rep u.ar (i : Int) → (∀ k ∈ s.ids, k ∈ (Tr.node i e l r).ids ∧ k ≠ i) → s.Rep ar2 (i : Int) := fun s hsr hk => Tr.rep_same hsr fun k hks => by
    obtain ⟨a, b⟩ := hk k hks
    exact get2 k (ids_lt h.base (inR k a)) b (jnot _ _ (inR k a))
  have nd1 := List.nodup_cons.1 nodN
  have hRl2 : l.Rep ar2 i := same l hRl fun k hk => ⟨by simp [Tr.ids, hk], fun z => nd1.1 (by rw [← z]; exact List.mem_append_left _ hk)⟩
  have hRr2 : r.Rep ar2 i := same r hRr fun k hk => ⟨by simp [Tr.ids, hk], fun z => nd1.1 (by rw [← z]; exact List.mem_append_right _ hk)⟩
  have hlf : (leaf j).Rep ar2 i := ⟨⟨getj.1, 0, getj.2, fun x hx => by cases hx⟩, trivial, trivial⟩
  have hDn : (Tr.node i e l r).Deep (wd p.2.2.1 - ((bitsP p).take n).length) := by
    have := (Tr.deep_sub hD hne).2
    rwa [hsub'] at this
  have hlen : ((bitsP p).take n).length = n := by rw [List.length_take]; omega
  rw [hlen] at hDn
  obtain ⟨m, hm⟩ : ∃ m, wd p.2.2.1 - n = m + 1 := ⟨wd p.2.2.1 - n - 1, by omega⟩
  rw [hm] at hDn
  have tb := take_bit hs (k := n) hn
  have hfr2 : ∀ x ∈ (u.take (i : Int)).fr, 0 ≤ x ∧ x.toNat < ar2.length := fun x hx => by
    obtain ⟨a, b⟩ := h.base.frl x (T.fr x hx)
    have := T.more.2.1
    exact ⟨a, by rw [len2]; omega⟩
  have hbig2 : ar2.length ≤ 2000000 ∧ (u.take (i : Int)).fr.length ≤ 2000000 := by
    have := T.more
    have := h.more
    rw [len2]
    omega
  -- in whichever of the two it stands
  have fin : ∀ l' r' : Tr, (Tr.node i e l' r').ids.Perm (j :: (Tr.node i e l r).ids) → ar2.getD i nd0 = (l'.ix, r'.ix, up, e.isSome, v) → l'.Rep ar2 i → r'.Rep ar2 i → l'.Deep m → r'.Deep m →
      (∀ b q, ((Tr.node i e l' r').sub (b :: q)).ent = ((Tr.node i e l r).sub (b :: q)).ent) → (l' ≠ .nil ∨ r' ≠ .nil) → (∀ s i1 e1 l1 r1, s ≠ [] → s ≠ [(bitsA (pA p)).getD n false] → (Tr.node i e l' r').sub s = .node i1 e1 l1 r1 → (Tr.node i e l r).sub s = .node i1 e1 l1 r1) →
      (Tr.node i e l' r').sub [(bitsA (pA p)).getD n false] = leaf j → ∃ u2 : Trie, u2.ar = ar2 ∧ u2.fr = (u.take (i : Int)).fr ∧ u2.n = (u.take (i : Int)).n ∧ PutI t p (n + 1) u.takeAt u2 ∧ (i : Int) < ((u.take (i : Int)).ar.length : Int) ∧ 0 ≤ (i : Int) := by
    intro l' r' hperm hgi hl' hr' hdl hdr hent hkn hlv hleaf
    have B := h.base.change (ar' := ar2) (fr' := (u.take (i : Int)).fr) (e' := e) (l' := l') (r' := r') hsub' (fun v k hk hno => get2 k (ids_lt h.base hk) (fun z => hno (by rw [z]; simp [Tr.ids])) (jnot _ _ hk))
      ⟨⟨by rw [len2]; exact hilt, v, by rw [upE]; exact hgi, hv⟩, hl', hr'⟩ (by rw [hlen, hm]; exact ⟨hdl, hdr⟩) (fun rest hrest hnd => by
        have h1 := T.nd ((Tr.node i e l r).ids ++ rest) (fun k hk => by
          rcases List.mem_append.1 hk with hk | hk
          · exact ids_lt h.base (inR k hk)
          · obtain ⟨v, hv⟩ := hrest k hk
            exact ids_lt h.base hv) (by rw [List.append_assoc]; exact hnd)
        rw [List.append_assoc] at h1
        exact (hperm.append_right _).nodup_iff.2 h1) hfr2 hbig2
    have hnew : (tsel (ts0 u.t0 p.2.2.1 (Tr.upd (fun _ => .node i e l' r') ((bitsP p).take n) (tsel u.t0 u.t1 p.2.2.1))) (ts1 u.t1 p.2.2.1 (Tr.upd (fun _ => .node i e l' r') ((bitsP p).take n) (tsel u.t0 u.t1 p.2.2.1))) p.2.2.1).sub ((bitsP p).take (n + 1)) = leaf j := by
      rw [tsel_set, if_pos rfl, tb, Tr.upd_at _ hne]
      exact hleaf
    refine ⟨⟨ar2, (u.take (i : Int)).fr, (u.take (i : Int)).n, ts0 u.t0 p.2.2.1 (Tr.upd (fun _ => .node i e l' r') ((bitsP p).take n) (tsel u.t0 u.t1 p.2.2.1)), ts1 u.t1 p.2.2.1 (Tr.upd (fun _ => .node i e l' r') ((bitsP p).take n) (tsel u.t0 u.t1 p.2.2.1))⟩, rfl, rfl, rfl, ⟨B, ?_, fun v' q' => ?_, by dsimp only; rw [T.n, h.num], ?_, ?_, ?_⟩, by omega, by omega⟩
    · refine change_live hsub' h.live (fun s i1 e1 l1 r1 hs0 hsd hsb => ?_) fun q' hp hq0 hqd hqe => hp (by rw [hqe]; exact List.prefix_refl _)
      by_cases hs1 : s = []
      · subst hs1
        cases hsb
        rcases hkn with hk | hk
        · exact .inr (.inl hk)
        · exact .inr (.inr hk)
      · have hs2 : s ≠ [(bitsA (pA p)).getD n false] := fun k => hsd (by rw [k, tb])
        refine h.live p.2.2.1 ((bitsP p).take n ++ s) i1 e1 l1 r1 hs0 (by rw [if_pos rfl]; exact fun k => hs1 (List.append_right_eq_self.1 k)) ?_
        rw [Tr.sub_app, hsub']
        exact hlv s i1 e1 l1 r1 hs1 hs2 hsb
    · rw [← h.get v' q']
      refine (change_get hsub' hent v' q').trans ?_
      split
      · rename_i hc
        obtain ⟨rfl, rfl⟩ := hc
        show e = Tr.get _ _
        unfold Tr.get
        rw [hsub']
        rfl
      · rfl
    · intro k
      have := hnew.symm.trans k
      cases this
    · exact T.at'.trans (congrArg Tr.ix hnew).symm
    · have := T.more
      have := h.more
      dsimp only
      rw [len2]
      omega
  by_cases hb : (bitsA (pA p)).getD n false = true
  · rw [if_pos hb] at hkid har2
    subst hkid
    refine fin l (leaf j) ?_ ?_ hRl2 hlf hDn.1 (leaf_deep j m) ?_ (.inr fun k => by cases k) ?_ ?_
    · show (i :: (l.ids ++ [j])).Perm (j :: i :: (l.ids ++ []))
      rw [List.append_nil]
      exact ((List.perm_append_comm (l₁ := l.ids) (l₂ := [j])).cons i).trans (List.Perm.swap j i l.ids)
    · rw [har2, getD_set, if_pos ⟨rfl, hilt⟩, T.at']
      rfl
    · intro b q
      cases b with
      | false => rfl
      | true => exact (leaf_ent j q).trans (by rw [Tr.sub_cons]; show none = (Tr.nil.sub q).ent; rw [Tr.sub_nil]; rfl)
    · intro s i1 e1 l1 r1 hs0 hs1 hsb
      cases s with
      | nil => exact absurd rfl hs0
      | cons b s =>
        cases b with
        | false => exact hsb
        | true =>
          rw [hb] at hs1
          cases s with
          | nil => exact absurd rfl hs1
          | cons c s =>
            exfalso
            have : (leaf j).sub (c :: s) = .node i1 e1 l1 r1 := hsb
            rw [Tr.sub_cons] at this
            have e0 : (leaf j).go c = .nil := by cases c <;> rfl
            rw [e0, Tr.sub_nil] at this
            cases this
    · rw [hb]; rfl
  · rw [if_neg hb] at hkid har2
    have hb : (bitsA (pA p)).getD n false = false := by simpa using hb
    subst hkid
    refine fin (leaf j) r ?_ ?_ hlf hRr2 (leaf_deep j m) hDn.2 ?_ (.inl fun k => by cases k) ?_ ?_
    · show (i :: j :: r.ids).Perm (j :: i :: r.ids)
      exact List.Perm.swap j i r.ids
    · rw [har2, getD_set, if_pos ⟨rfl, hilt⟩, T.at']
      rfl
    · intro b q
      cases b with
      | true => rfl
      | false => exact (leaf_ent j q).trans (by rw [Tr.sub_cons]; show none = (Tr.nil.sub q).ent; rw [Tr.sub_nil]; rfl)
    · intro s i1 e1 l1 r1 hs0 hs1 hsb
      cases s with
      | nil => exact absurd rfl hs0
      | cons b s =>
        cases b with
        | true => exact hsb
        | false =>
          rw [hb] at hs1
          cases s with
          | nil => exact absurd rfl hs1
          | cons c s =>
            exfalso
            have : (leaf j).sub (c :: s) = .node i1 e1 l1 r1 := hsb
            rw [Tr.sub_cons] at this
            have e0 : (leaf j).go c = .nil := by cases c <;> rfl
            rw [e0, Tr.sub_nil] at this
            cases this
    · rw [hb]; rfl
end Sp
end
