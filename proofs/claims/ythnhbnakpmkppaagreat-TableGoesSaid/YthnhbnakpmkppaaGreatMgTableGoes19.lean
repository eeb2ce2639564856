import Derived.ProofKit
import Derived.Test.YthnhbnakpmkppaaGreatMgTableGoes18
section
set_option linter.all false
set_option maxRecDepth 100000
namespace Sp
open Go Go.Proofs Sx
@[reducible] def H_SpYt_6 (v1 : List En × Nat × Nat × Nat) (v2 : Nat) (v3 : En → Int) : Prop :=
 v1.2.1 < v1.2.2.1 /\ v1.2.2.1 < v1.2.2.2 /\ v1.2.2.2 <= v1.1.length /\ v1.1.length <= most /\ v1.2.2.2 <= v1.2.1 + v2 /\ List.Pairwise (fun (a b : En) => v3 a <= v3 b) (mids v1.1 v1.2.1 v1.2.2.1) /\
 List.Pairwise (fun (a b : En) => v3 a <= v3 b) (mids v1.1 v1.2.2.1 v1.2.2.2)
@[reducible] def H_SpYt_3 (v1 : List En × Nat × Nat × Nat) (v2 : Int × Int) (v3 : List En) (v4 : Nat) (v5 : En → Int) : Prop :=
 ifB (decide (((↑v1.2.1 : Int) + (↑v1.2.2.2 : Int)) % (18446744073709551616 : Int) / (2 : Int) + (↑v1.2.2.1 : Int) - v2.1 < (↑v1.2.2.2 : Int))) (∃ (b1 : List En × Nat × Nat × Nat), v1.1.length =
 b1.1.length /\ ((↑v1.2.1 : Int) + (↑v1.2.2.2 : Int)) % (18446744073709551616 : Int) / (2 : Int) = (↑b1.2.1 : Int) /\ ((↑v1.2.1 : Int) + (↑v1.2.2.2 : Int)) % (18446744073709551616 : Int) / (2 : Int) +
 (↑v1.2.2.1 : Int) - v2.1 = (↑b1.2.2.1 : Int) /\ (↑v1.2.2.2 : Int) = (↑b1.2.2.2 : Int) /\ v3 = b1.1 /\ (H_SpYt_6 b1 v4 v5) /\ ∀ (b2 : List En), SSR v5 b1.2.1 b1.2.2.2 b1.1 b2 -> ∃ (b3 : List En), SSR
 v5 v1.2.1 v1.2.2.2 v1.1 b3 /\ b2 = b3 /\ True) (∃ (b4 : List En), SSR v5 v1.2.1 v1.2.2.2 v1.1 b4 /\ v3 = b4 /\ True)
@[reducible] def H_SpYt_5 (v1 : List En × Nat × Nat × Nat) (v2 : Int × Int) (v3 : Nat) (v4 : En → Int) : Prop :=
 ifB (decide (((↑v1.2.1 : Int) + (↑v1.2.2.2 : Int)) % (18446744073709551616 : Int) / (2 : Int) < ((↑v1.2.1 : Int) + (↑v1.2.2.2 : Int)) % (18446744073709551616 : Int) / (2 : Int) + (↑v1.2.2.1 : Int) -
 v2.1)) (ifB (decide (((↑v1.2.1 : Int) + (↑v1.2.2.2 : Int)) % (18446744073709551616 : Int) / (2 : Int) + (↑v1.2.2.1 : Int) - v2.1 < (↑v1.2.2.2 : Int))) (∃ (b1 : List En × Nat × Nat × Nat), v1.1.length
 = b1.1.length /\ ((↑v1.2.1 : Int) + (↑v1.2.2.2 : Int)) % (18446744073709551616 : Int) / (2 : Int) = (↑b1.2.1 : Int) /\ ((↑v1.2.1 : Int) + (↑v1.2.2.2 : Int)) % (18446744073709551616 : Int) / (2 : Int)
 + (↑v1.2.2.1 : Int) - v2.1 = (↑b1.2.2.1 : Int) /\ (↑v1.2.2.2 : Int) = (↑b1.2.2.2 : Int) /\ v1.1 = b1.1 /\ (H_SpYt_6 b1 v3 v4) /\ ∀ (b2 : List En), SSR v4 b1.2.1 b1.2.2.2 b1.1 b2 -> ∃ (b3 : List En),
 SSR v4 v1.2.1 v1.2.2.2 v1.1 b3 /\ b2 = b3 /\ True) (∃ (b4 : List En), SSR v4 v1.2.1 v1.2.2.2 v1.1 b4 /\ v1.1 = b4 /\ True)) (∃ (b5 : List En), SSR v4 v1.2.1 v1.2.2.2 v1.1 b5 /\ v1.1 = b5 /\ True)
@[reducible] def H_SpYt_2 (v1 : List En × Nat × Nat × Nat) (v2 : Int × Int) (v3 : Nat) (v4 : En → Int) : Prop :=
 ifB (decide ((↑v1.2.1 : Int) < v2.1)) (ifB (decide (v2.1 < ((↑v1.2.1 : Int) + (↑v1.2.2.2 : Int)) % (18446744073709551616 : Int) / (2 : Int))) (∃ (b1 : List En × Nat × Nat × Nat), v1.1.length =
 b1.1.length /\ (↑v1.2.1 : Int) = (↑b1.2.1 : Int) /\ v2.1 = (↑b1.2.2.1 : Int) /\ ((↑v1.2.1 : Int) + (↑v1.2.2.2 : Int)) % (18446744073709551616 : Int) / (2 : Int) = (↑b1.2.2.2 : Int) /\ v1.1 = b1.1 /\
 (H_SpYt_6 b1 v3 v4) /\ ∀ (b2 : List En), SSR v4 b1.2.1 b1.2.2.2 b1.1 b2 -> ifB (decide (((↑v1.2.1 : Int) + (↑v1.2.2.2 : Int)) % (18446744073709551616 : Int) / (2 : Int) < ((↑v1.2.1 : Int) + (↑v1.2.2.2
 : Int)) % (18446744073709551616 : Int) / (2 : Int) + (↑v1.2.2.1 : Int) - v2.1)) (H_SpYt_3 v1 v2 b2 v3 v4) (∃ (b7 : List En), SSR v4 v1.2.1 v1.2.2.2 v1.1 b7 /\ b2 = b7 /\ True)) (H_SpYt_5 v1 v2 v3 v4))
 (H_SpYt_5 v1 v2 v3 v4)
@[reducible] def H_SpYt_11 (v1 : List En × Nat × Nat × Nat) (v2 : Int × Int) (v3 : List En) (v4 : Nat) (v5 : En → Int) : Prop :=
 ifB (decide (((↑v1.2.1 : Int) + (↑v1.2.2.2 : Int)) % (18446744073709551616 : Int) / (2 : Int) < ((↑v1.2.1 : Int) + (↑v1.2.2.2 : Int)) % (18446744073709551616 : Int) / (2 : Int) + (↑v1.2.2.1 : Int) -
 v2.1)) (H_SpYt_3 v1 v2 v3 v4 v5) (∃ (b1 : List En), SSR v5 v1.2.1 v1.2.2.2 v1.1 b1 /\ v3 = b1 /\ True)
@[reducible] def H_SpYt_1 (v1 : List En × Nat × Nat × Nat) (v2 : Int × Int) (v3 : Nat) (v4 : En → Int) : Prop :=
 ((-9223372036854775808 : Int) <= ((↑v1.2.1 : Int) + (↑v1.2.2.2 : Int)) % (18446744073709551616 : Int) / (2 : Int) + (↑v1.2.2.1 : Int) - v2.1 /\ ((↑v1.2.1 : Int) + (↑v1.2.2.2 : Int)) %
 (18446744073709551616 : Int) / (2 : Int) + (↑v1.2.2.1 : Int) - v2.1 <= (9223372036854775807 : Int)) /\ ifB (decide (v2.1 < (↑v1.2.2.1 : Int))) (ifB (decide ((↑v1.2.2.1 : Int) < ((↑v1.2.1 : Int) +
 (↑v1.2.2.2 : Int)) % (18446744073709551616 : Int) / (2 : Int) + (↑v1.2.2.1 : Int) - v2.1)) (∃ (b1 : List En × Nat × Nat × Nat), v1.1.length = b1.1.length /\ v2.1 = (↑b1.2.1 : Int) /\ (↑v1.2.2.1 : Int)
 = (↑b1.2.2.1 : Int) /\ ((↑v1.2.1 : Int) + (↑v1.2.2.2 : Int)) % (18446744073709551616 : Int) / (2 : Int) + (↑v1.2.2.1 : Int) - v2.1 = (↑b1.2.2.2 : Int) /\ v1.1 = b1.1 /\ (b1.2.1 < b1.2.2.1 /\ b1.2.2.1
 < b1.2.2.2 /\ b1.2.2.2 <= b1.1.length /\ b1.1.length <= most) /\ ∀ (b2 : List En), b2 = rotL b1.1 b1.2.1 b1.2.2.1 b1.2.2.2 -> ifB (decide ((↑v1.2.1 : Int) < v2.1)) (ifB (decide (v2.1 < ((↑v1.2.1 :
 Int) + (↑v1.2.2.2 : Int)) % (18446744073709551616 : Int) / (2 : Int))) (∃ (b3 : List En × Nat × Nat × Nat), v1.1.length = b3.1.length /\ (↑v1.2.1 : Int) = (↑b3.2.1 : Int) /\ v2.1 = (↑b3.2.2.1 : Int)
 /\ ((↑v1.2.1 : Int) + (↑v1.2.2.2 : Int)) % (18446744073709551616 : Int) / (2 : Int) = (↑b3.2.2.2 : Int) /\ b2 = b3.1 /\ (H_SpYt_6 b3 v3 v4) /\ ∀ (b4 : List En), SSR v4 b3.2.1 b3.2.2.2 b3.1 b4 -> ifB
 (decide (((↑v1.2.1 : Int) + (↑v1.2.2.2 : Int)) % (18446744073709551616 : Int) / (2 : Int) < ((↑v1.2.1 : Int) + (↑v1.2.2.2 : Int)) % (18446744073709551616 : Int) / (2 : Int) + (↑v1.2.2.1 : Int) -
 v2.1)) (H_SpYt_3 v1 v2 b4 v3 v4) (∃ (b9 : List En), SSR v4 v1.2.1 v1.2.2.2 v1.1 b9 /\ b4 = b9 /\ True)) (H_SpYt_11 v1 v2 b2 v3 v4)) (H_SpYt_11 v1 v2 b2 v3 v4)) (H_SpYt_2 v1 v2 v3 v4)) (H_SpYt_2 v1 v2
 v3 v4)
@[reducible] def H_SpYt_10 (v1 : Int × Int) (v2 : List En × Nat × Nat × Nat) : Prop :=
 (0 : Int) <= (v1.1 + v1.2) % (18446744073709551616 : Int) / (2 : Int) /\ (v1.1 + v1.2) % (18446744073709551616 : Int) / (2 : Int) < (↑v2.1.length : Int)
@[reducible] def H_SpYt_8 (v1 : Int × Int) : Prop :=
 (-9223372036854775808 : Int) <= (v1.1 + v1.2) % (18446744073709551616 : Int) / (2 : Int) /\ (v1.1 + v1.2) % (18446744073709551616 : Int) / (2 : Int) <= (9223372036854775807 : Int)
@[reducible] def H_SpYt_7 (v1 : Int × Int) (v2 : Int × Int → Prop) (v3 : Int × Int → Nat) : Prop :=
 ((-9223372036854775808 : Int) <= (v1.1 + v1.2) % (18446744073709551616 : Int) / (2 : Int) + (1 : Int) /\ (v1.1 + v1.2) % (18446744073709551616 : Int) / (2 : Int) + (1 : Int) <= (9223372036854775807 :
 Int)) /\ ∃ (b1 : Int × Int), v2 b1 /\ v3 b1 < v3 v1 /\ (v1.1 + v1.2) % (18446744073709551616 : Int) / (2 : Int) + (1 : Int) = b1.1 /\ v1.2 = b1.2 /\ True
@[reducible] def H_SpYt_4 (v1 : Int × Int) (v2 : List En × Nat × Nat × Nat) (v3 : En → Int) (v4 : Int × Int → Prop) (v5 : Int × Int → Nat) : Prop :=
 ((-9223372036854775808 : Int) <= v1.1 + v1.2 /\ v1.1 + v1.2 <= (9223372036854775807 : Int)) /\ (0 : Int) <= (1 : Int) /\ (H_SpYt_8 v1) /\ ((-9223372036854775808 : Int) <= ((↑v2.2.1 : Int) + (↑v2.2.2.2
 : Int)) % (18446744073709551616 : Int) / (2 : Int) + (↑v2.2.2.1 : Int) - (1 : Int) - (v1.1 + v1.2) % (18446744073709551616 : Int) / (2 : Int) /\ ((↑v2.2.1 : Int) + (↑v2.2.2.2 : Int)) %
 (18446744073709551616 : Int) / (2 : Int) + (↑v2.2.2.1 : Int) - (1 : Int) - (v1.1 + v1.2) % (18446744073709551616 : Int) / (2 : Int) <= (9223372036854775807 : Int)) /\ ((0 : Int) <= ((↑v2.2.1 : Int) +
 (↑v2.2.2.2 : Int)) % (18446744073709551616 : Int) / (2 : Int) + (↑v2.2.2.1 : Int) - (1 : Int) - (v1.1 + v1.2) % (18446744073709551616 : Int) / (2 : Int) /\ ((↑v2.2.1 : Int) + (↑v2.2.2.2 : Int)) %
 (18446744073709551616 : Int) / (2 : Int) + (↑v2.2.2.1 : Int) - (1 : Int) - (v1.1 + v1.2) % (18446744073709551616 : Int) / (2 : Int) < (↑v2.1.length : Int)) /\ (H_SpYt_10 v1 v2) /\ ∃ (b1 : En × En),
 (v2.1.getD (((↑v2.2.1 : Int) + (↑v2.2.2.2 : Int)) % (18446744073709551616 : Int) / (2 : Int) + (↑v2.2.2.1 : Int) - (1 : Int) - (v1.1 + v1.2) % (18446744073709551616 : Int) / (2 : Int)).toNat ((0 :
 Int), (0 : Int))).1 = b1.1.1 /\ (v2.1.getD (((↑v2.2.1 : Int) + (↑v2.2.2.2 : Int)) % (18446744073709551616 : Int) / (2 : Int) + (↑v2.2.2.1 : Int) - (1 : Int) - (v1.1 + v1.2) % (18446744073709551616 :
 Int) / (2 : Int)).toNat ((0 : Int), (0 : Int))).2 = b1.1.2 /\ (v2.1.getD ((v1.1 + v1.2) % (18446744073709551616 : Int) / (2 : Int)).toNat ((0 : Int), (0 : Int))).1 = b1.2.1 /\ (v2.1.getD ((v1.1 +
 v1.2) % (18446744073709551616 : Int) / (2 : Int)).toNat ((0 : Int), (0 : Int))).2 = b1.2.2 /\ True /\ ∀ (b2 : Unit), True -> ifB (!decide (cmpK v3 b1.1 b1.2 < (0 : Int))) (H_SpYt_7 v1 v4 v5) (∃ (b4 :
 Int × Int), v4 b4 /\ v5 b4 < v5 v1 /\ v1.1 = b4.1 /\ (v1.1 + v1.2) % (18446744073709551616 : Int) / (2 : Int) = b4.2 /\ True)
@[reducible] def H_SpYt_9 (v1 : List En × Nat × Nat × Nat) : Prop :=
 (-9223372036854775808 : Int) <= ((↑v1.2.1 : Int) + (↑v1.2.2.2 : Int)) % (18446744073709551616 : Int) / (2 : Int) + (↑v1.2.2.1 : Int) - (1 : Int) /\ ((↑v1.2.1 : Int) + (↑v1.2.2.2 : Int)) %
 (18446744073709551616 : Int) / (2 : Int) + (↑v1.2.2.1 : Int) - (1 : Int) <= (9223372036854775807 : Int)
def T_vsym (key : En → Int) : Prop :=
 ∀ (n : Nat) (x : List En × Nat × Nat × Nat), x.2.1 < x.2.2.1 /\ x.2.2.1 < x.2.2.2 /\ x.2.2.2 <= x.1.length /\ x.1.length <= most /\ x.2.2.2 <= x.2.1 + (n + (1 : Nat)) /\ List.Pairwise (fun (a b : En)
 => key a <= key b) (mids x.1 x.2.1 x.2.2.1) /\ List.Pairwise (fun (a b : En) => key a <= key b) (mids x.1 x.2.2.1 x.2.2.2) -> ((-9223372036854775808 : Int) <= (↑x.2.2.1 : Int) - (↑x.2.1 : Int) /\
 (↑x.2.2.1 : Int) - (↑x.2.1 : Int) <= (9223372036854775807 : Int)) /\ ifB (decide ((↑x.2.2.1 : Int) - (↑x.2.1 : Int) = (1 : Int))) (∃ (I : Int × Int -> Prop), ∃ (μ : Int × Int -> Nat), (∃ (x_1 : Int ×
 Int), I x_1 /\ (↑x.2.2.1 : Int) = x_1.1 /\ (↑x.2.2.2 : Int) = x_1.2 /\ True) /\ ∀ (x_1 : Int × Int), I x_1 -> ifB (decide (x_1.1 < x_1.2)) (((-9223372036854775808 : Int) <= x_1.1 + x_1.2 /\ x_1.1 +
 x_1.2 <= (9223372036854775807 : Int)) /\ (0 : Int) <= (1 : Int) /\ (H_SpYt_8 x_1) /\ (H_SpYt_10 x_1 x) /\ ((0 : Int) <= (↑x.2.1 : Int) /\ (↑x.2.1 : Int) < (↑x.1.length : Int)) /\ ∃ (x_2 : En × En),
 (x.1.getD ((x_1.1 + x_1.2) % (18446744073709551616 : Int) / (2 : Int)).toNat ((0 : Int), (0 : Int))).1 = x_2.1.1 /\ (x.1.getD ((x_1.1 + x_1.2) % (18446744073709551616 : Int) / (2 : Int)).toNat ((0 :
 Int), (0 : Int))).2 = x_2.1.2 /\ (x.1.getD (↑x.2.1 : Int).toNat ((0 : Int), (0 : Int))).1 = x_2.2.1 /\ (x.1.getD (↑x.2.1 : Int).toNat ((0 : Int), (0 : Int))).2 = x_2.2.2 /\ True /\ ∀ (y : Unit), True
 -> ifB (decide (cmpK key x_2.1 x_2.2 < (0 : Int))) (H_SpYt_7 x_1 I μ) (∃ (y : Int × Int), I y /\ μ y < μ x_1 /\ x_1.1 = y.1 /\ (x_1.1 + x_1.2) % (18446744073709551616 : Int) / (2 : Int) = y.2 /\
 True)) (∃ (I : Int × List En -> Prop), ∃ (μ : Int × List En -> Nat), (∃ (x_2 : Int × List En), I x_2 /\ (↑x.2.1 : Int) = x_2.1 /\ x.1 = x_2.2 /\ True) /\ ∀ (x_2 : Int × List En), I x_2 ->
 ((-9223372036854775808 : Int) <= x_1.1 - (1 : Int) /\ x_1.1 - (1 : Int) <= (9223372036854775807 : Int)) /\ ifB (decide (x_2.1 < x_1.1 - (1 : Int))) (((-9223372036854775808 : Int) <= x_2.1 + (1 : Int)
 /\ x_2.1 + (1 : Int) <= (9223372036854775807 : Int)) /\ ((-9223372036854775808 : Int) <= x_2.1 + (1 : Int) /\ x_2.1 + (1 : Int) <= (9223372036854775807 : Int)) /\ ((0 : Int) <= x_2.1 + (1 : Int) /\
 x_2.1 + (1 : Int) < (↑x.1.length : Int)) /\ ((0 : Int) <= x_2.1 /\ x_2.1 < (↑x.1.length : Int)) /\ ((0 : Int) <= x_2.1 /\ x_2.1 < (↑x.1.length : Int)) /\ ((0 : Int) <= x_2.1 + (1 : Int) /\ x_2.1 + (1
 : Int) < (↑x.1.length : Int)) /\ ((-9223372036854775808 : Int) <= x_2.1 + (1 : Int) /\ x_2.1 + (1 : Int) <= (9223372036854775807 : Int)) /\ ∃ (y : Int × List En), I y /\ μ y < μ x_2 /\ x_2.1 + (1 :
 Int) = y.1 /\ (x_2.2.set x_2.1.toNat (x_2.2.getD (x_2.1 + (1 : Int)).toNat ((0 : Int), (0 : Int)))).set (x_2.1 + (1 : Int)).toNat (x_2.2.getD x_2.1.toNat ((0 : Int), (0 : Int))) = y.2 /\ True) (∃ (y :
 List En), SSR key x.2.1 x.2.2.2 x.1 y /\ x_2.2 = y /\ True))) (((-9223372036854775808 : Int) <= (↑x.2.2.2 : Int) - (↑x.2.2.1 : Int) /\ (↑x.2.2.2 : Int) - (↑x.2.2.1 : Int) <= (9223372036854775807 :
 Int)) /\ ifB (decide ((↑x.2.2.2 : Int) - (↑x.2.2.1 : Int) = (1 : Int))) (∃ (I : Int × Int -> Prop), ∃ (μ : Int × Int -> Nat), (∃ (x_1 : Int × Int), I x_1 /\ (↑x.2.1 : Int) = x_1.1 /\ (↑x.2.2.1 : Int)
 = x_1.2 /\ True) /\ ∀ (x_1 : Int × Int), I x_1 -> ifB (decide (x_1.1 < x_1.2)) (((-9223372036854775808 : Int) <= x_1.1 + x_1.2 /\ x_1.1 + x_1.2 <= (9223372036854775807 : Int)) /\ (0 : Int) <= (1 :
 Int) /\ (H_SpYt_8 x_1) /\ ((0 : Int) <= (↑x.2.2.1 : Int) /\ (↑x.2.2.1 : Int) < (↑x.1.length : Int)) /\ (H_SpYt_10 x_1 x) /\ ∃ (x_2 : En × En), (x.1.getD (↑x.2.2.1 : Int).toNat ((0 : Int), (0 :
 Int))).1 = x_2.1.1 /\ (x.1.getD (↑x.2.2.1 : Int).toNat ((0 : Int), (0 : Int))).2 = x_2.1.2 /\ (x.1.getD ((x_1.1 + x_1.2) % (18446744073709551616 : Int) / (2 : Int)).toNat ((0 : Int), (0 : Int))).1 =
 x_2.2.1 /\ (x.1.getD ((x_1.1 + x_1.2) % (18446744073709551616 : Int) / (2 : Int)).toNat ((0 : Int), (0 : Int))).2 = x_2.2.2 /\ True /\ ∀ (y : Unit), True -> ifB (!decide (cmpK key x_2.1 x_2.2 < (0 :
 Int))) (H_SpYt_7 x_1 I μ) (∃ (y : Int × Int), I y /\ μ y < μ x_1 /\ x_1.1 = y.1 /\ (x_1.1 + x_1.2) % (18446744073709551616 : Int) / (2 : Int) = y.2 /\ True)) (∃ (I : Int × List En -> Prop), ∃ (μ : Int
 × List En -> Nat), (∃ (x_2 : Int × List En), I x_2 /\ (↑x.2.2.1 : Int) = x_2.1 /\ x.1 = x_2.2 /\ True) /\ ∀ (x_2 : Int × List En), I x_2 -> ifB (decide (x_1.1 < x_2.1)) (((-9223372036854775808 : Int)
 <= x_2.1 - (1 : Int) /\ x_2.1 - (1 : Int) <= (9223372036854775807 : Int)) /\ ((-9223372036854775808 : Int) <= x_2.1 - (1 : Int) /\ x_2.1 - (1 : Int) <= (9223372036854775807 : Int)) /\ ((0 : Int) <=
 x_2.1 - (1 : Int) /\ x_2.1 - (1 : Int) < (↑x.1.length : Int)) /\ ((0 : Int) <= x_2.1 /\ x_2.1 < (↑x.1.length : Int)) /\ ((0 : Int) <= x_2.1 /\ x_2.1 < (↑x.1.length : Int)) /\ ((0 : Int) <= x_2.1 - (1
 : Int) /\ x_2.1 - (1 : Int) < (↑x.1.length : Int)) /\ ((-9223372036854775808 : Int) <= x_2.1 - (1 : Int) /\ x_2.1 - (1 : Int) <= (9223372036854775807 : Int)) /\ ∃ (y : Int × List En), I y /\ μ y < μ
 x_2 /\ x_2.1 - (1 : Int) = y.1 /\ (x_2.2.set x_2.1.toNat (x_2.2.getD (x_2.1 - (1 : Int)).toNat ((0 : Int), (0 : Int)))).set (x_2.1 - (1 : Int)).toNat (x_2.2.getD x_2.1.toNat ((0 : Int), (0 : Int))) =
 y.2 /\ True) (∃ (y : List En), SSR key x.2.1 x.2.2.2 x.1 y /\ x_2.2 = y /\ True))) (((-9223372036854775808 : Int) <= (↑x.2.1 : Int) + (↑x.2.2.2 : Int) /\ (↑x.2.1 : Int) + (↑x.2.2.2 : Int) <=
 (9223372036854775807 : Int)) /\ (0 : Int) <= (1 : Int) /\ ((-9223372036854775808 : Int) <= ((↑x.2.1 : Int) + (↑x.2.2.2 : Int)) % (18446744073709551616 : Int) / (2 : Int) /\ ((↑x.2.1 : Int) + (↑x.2.2.2
 : Int)) % (18446744073709551616 : Int) / (2 : Int) <= (9223372036854775807 : Int)) /\ ((-9223372036854775808 : Int) <= ((↑x.2.1 : Int) + (↑x.2.2.2 : Int)) % (18446744073709551616 : Int) / (2 : Int) +
 (↑x.2.2.1 : Int) /\ ((↑x.2.1 : Int) + (↑x.2.2.2 : Int)) % (18446744073709551616 : Int) / (2 : Int) + (↑x.2.2.1 : Int) <= (9223372036854775807 : Int)) /\ ifB (decide (((↑x.2.1 : Int) + (↑x.2.2.2 :
 Int)) % (18446744073709551616 : Int) / (2 : Int) < (↑x.2.2.1 : Int))) (((-9223372036854775808 : Int) <= ((↑x.2.1 : Int) + (↑x.2.2.2 : Int)) % (18446744073709551616 : Int) / (2 : Int) + (↑x.2.2.1 :
 Int) - (↑x.2.2.2 : Int) /\ ((↑x.2.1 : Int) + (↑x.2.2.2 : Int)) % (18446744073709551616 : Int) / (2 : Int) + (↑x.2.2.1 : Int) - (↑x.2.2.2 : Int) <= (9223372036854775807 : Int)) /\ (H_SpYt_9 x) /\ ∃ (I
 : Int × Int -> Prop), ∃ (μ : Int × Int -> Nat), (∃ (x_1 : Int × Int), I x_1 /\ ((↑x.2.1 : Int) + (↑x.2.2.2 : Int)) % (18446744073709551616 : Int) / (2 : Int) + (↑x.2.2.1 : Int) - (↑x.2.2.2 : Int) =
 x_1.1 /\ ((↑x.2.1 : Int) + (↑x.2.2.2 : Int)) % (18446744073709551616 : Int) / (2 : Int) = x_1.2 /\ True) /\ ∀ (x_1 : Int × Int), I x_1 -> ifB (decide (x_1.1 < x_1.2)) (H_SpYt_4 x_1 x key I μ)
 (H_SpYt_1 x x_1 n key)) ((H_SpYt_9 x) /\ ∃ (I : Int × Int -> Prop), ∃ (μ : Int × Int -> Nat), (∃ (x_1 : Int × Int), I x_1 /\ (↑x.2.1 : Int) = x_1.1 /\ (↑x.2.2.1 : Int) = x_1.2 /\ True) /\ ∀ (x_1 : Int
 × Int), I x_1 -> ifB (decide (x_1.1 < x_1.2)) (H_SpYt_4 x_1 x key I μ) (H_SpYt_1 x x_1 n key))))
theorem o_vsym : (∀ (n : Nat), owes Tryz.prog (tab (Y1 n)) LqV 0 314 Tryz.f314 (SymS 294 key1 (n+1))) = T_vsym key1 := by kernel_rfl
theorem o_vsym0 : (∀ (n : Nat), owes Tryz.prog (tab (Y0 n)) LqV 0 314 Tryz.f314 (SymS 293 key0 (n+1))) = T_vsym key0 := by kernel_rfl
end Sp
end
section
set_option linter.all false
set_option maxRecDepth 10000
namespace Sp
open Go Go.Proofs Sx Go.Proofs.YthnhbnakpmkppaaGreat.Ma
/-! ### what stands behind the search -/
@[reducible] def srtP (key : En → Int) (l : List En) : Prop := List.Pairwise (fun (a b : En) => key a ≤ key b) l
def sy2 (key : En → Int) (n : Nat) (xs : List En) (a b : Nat) (md en : Int) (y : List En) : Prop :=
  ifB (decide (md < en)) (ifB (decide (en < (b : Int))) (∃ z : List En × Nat × Nat × Nat, xs.length = z.1.length ∧ md = (z.2.1 : Int) ∧ en = (z.2.2.1 : Int) ∧ (b : Int) = (z.2.2.2 : Int) ∧ y = z.1 ∧
    (z.2.1 < z.2.2.1 ∧ z.2.2.1 < z.2.2.2 ∧ z.2.2.2 ≤ z.1.length ∧ z.1.length ≤ most ∧ z.2.2.2 ≤ z.2.1 + n ∧ srtP key (mids z.1 z.2.1 z.2.2.1) ∧ srtP key (mids z.1 z.2.2.1 z.2.2.2)) ∧
    ∀ y', SSR key z.2.1 z.2.2.2 z.1 y' → ∃ y1, SSR key a b xs y1 ∧ y' = y1 ∧ True) (∃ y1, SSR key a b xs y1 ∧ y = y1 ∧ True)) (∃ y1, SSR key a b xs y1 ∧ y = y1 ∧ True)
def sy1 (key : En → Int) (n : Nat) (xs : List En) (a b : Nat) (md st en : Int) (y : List En) : Prop :=
  ifB (decide ((a : Int) < st)) (ifB (decide (st < md)) (∃ z : List En × Nat × Nat × Nat, xs.length = z.1.length ∧ (a : Int) = (z.2.1 : Int) ∧ st = (z.2.2.1 : Int) ∧ md = (z.2.2.2 : Int) ∧ y = z.1 ∧
    (z.2.1 < z.2.2.1 ∧ z.2.2.1 < z.2.2.2 ∧ z.2.2.2 ≤ z.1.length ∧ z.1.length ≤ most ∧ z.2.2.2 ≤ z.2.1 + n ∧ srtP key (mids z.1 z.2.1 z.2.2.1) ∧ srtP key (mids z.1 z.2.2.1 z.2.2.2)) ∧
    ∀ y', SSR key z.2.1 z.2.2.2 z.1 y' → sy2 key n xs a b md en y') (sy2 key n xs a b md en y)) (sy2 key n xs a b md en y)
def sy0 (key : En → Int) (n : Nat) (xs : List En) (a m b : Nat) (md st en : Int) : Prop :=
  ifB (decide (st < (m : Int))) (ifB (decide ((m : Int) < en)) (∃ z : List En × Nat × Nat × Nat, xs.length = z.1.length ∧ st = (z.2.1 : Int) ∧ (m : Int) = (z.2.2.1 : Int) ∧ en = (z.2.2.2 : Int) ∧ xs = z.1 ∧
    (z.2.1 < z.2.2.1 ∧ z.2.2.1 < z.2.2.2 ∧ z.2.2.2 ≤ z.1.length ∧ z.1.length ≤ most) ∧
    ∀ y, y = rotL z.1 z.2.1 z.2.2.1 z.2.2.2 → sy1 key n xs a b md st en y) (sy1 key n xs a b md st en xs)) (sy1 key n xs a b md st en xs)
@[reducible] def bnd (z : Int) : Prop := (-9223372036854775808) ≤ z ∧ z ≤ 9223372036854775807
def syS (key : En → Int) (n : Nat) (xs : List En) (a m b : Nat) (md s0 r0 : Int) : Prop :=
  ∃ (I : Int × Int → Prop), ∃ (μ : Int × Int → Nat), (∃ (x : Int × Int), I x ∧ s0 = x.1 ∧ r0 = x.2 ∧ True) ∧ ∀ (x : Int × Int), I x →
    ifB (decide (x.1 < x.2)) (bnd (x.1 + x.2) ∧ 0 ≤ (1 : Int) ∧ bnd ((x.1 + x.2) % 18446744073709551616 / 2) ∧ bnd (md + (m : Int) - 1 - (x.1 + x.2) % 18446744073709551616 / 2) ∧
      (0 ≤ md + (m : Int) - 1 - (x.1 + x.2) % 18446744073709551616 / 2 ∧ md + (m : Int) - 1 - (x.1 + x.2) % 18446744073709551616 / 2 < (xs.length : Int)) ∧
      (0 ≤ (x.1 + x.2) % 18446744073709551616 / 2 ∧ (x.1 + x.2) % 18446744073709551616 / 2 < (xs.length : Int)) ∧
      ∃ (z : En × En), (xs.getD (md + (m : Int) - 1 - (x.1 + x.2) % 18446744073709551616 / 2).toNat (0, 0)).1 = z.1.1 ∧ (xs.getD (md + (m : Int) - 1 - (x.1 + x.2) % 18446744073709551616 / 2).toNat (0, 0)).2 = z.1.2 ∧
        (xs.getD ((x.1 + x.2) % 18446744073709551616 / 2).toNat (0, 0)).1 = z.2.1 ∧ (xs.getD ((x.1 + x.2) % 18446744073709551616 / 2).toNat (0, 0)).2 = z.2.2 ∧ True ∧ ∀ (y : Unit), True →
          ifB (!decide (cmpK key z.1 z.2 < 0)) (bnd ((x.1 + x.2) % 18446744073709551616 / 2 + 1) ∧ ∃ (y : Int × Int), I y ∧ μ y < μ x ∧ (x.1 + x.2) % 18446744073709551616 / 2 + 1 = y.1 ∧ x.2 = y.2 ∧ True)
            (∃ (y : Int × Int), I y ∧ μ y < μ x ∧ x.1 = y.1 ∧ (x.1 + x.2) % 18446744073709551616 / 2 = y.2 ∧ True))
      (bnd (md + (m : Int) - x.1) ∧ sy0 key n xs a m b md x.1 (md + (m : Int) - x.1))
/-! ### plain facts -/
theorem mids_take {α : Type} {y z : List α} {c a b : Nat} (h : y.take c = z.take c) (hb : b ≤ c) : mids y a b = mids z a b := by
  unfold mids
  have := congrArg (List.take b) h
  rw [List.take_take, List.take_take, Nat.min_eq_left hb] at this
  rw [this]
theorem mids_drop {α : Type} {y z : List α} {c a b : Nat} (h : y.drop c = z.drop c) (ha : c ≤ a) : mids y a b = mids z a b := by
  apply List.ext_getElem?
  intro i
  rw [mids_get, mids_get]
  have := congrArg (fun l : List α => l[a + i - c]?) h
  simp only [List.getElem?_drop] at this
  rw [show c + (a + i - c) = a + i by omega] at this
  rw [this]
theorem take_le {α : Type} {y z : List α} {c a : Nat} (h : y.take c = z.take c) (ha : a ≤ c) : y.take a = z.take a := by
  have := congrArg (List.take a) h
  rwa [List.take_take, List.take_take, Nat.min_eq_left ha] at this
theorem drop_le {α : Type} {y z : List α} {c b : Nat} (h : y.drop c = z.drop c) (hb : c ≤ b) : y.drop b = z.drop b := by
  have := congrArg (List.drop (b - c)) h
  rwa [List.drop_drop, List.drop_drop, show c + (b - c) = b by omega] at this
structure Half (key : En → Int) (a d b : Nat) (xs y : List En) : Prop where
  len : y.length = xs.length
  ahead : y.take a = xs.take a
  behind : y.drop b = xs.drop b
  same : EqF key (mids y a b) (mids xs a b)
  le : ∀ u ∈ mids y a d, ∀ v ∈ mids y d b, key u ≤ key v
theorem Half.first {key : En → Int} {a d b : Nat} {xs y z : List En} (had : a ≤ d) (hdb : d ≤ b) (h : Half key a d b xs y) (s : SSR key a d y z) : Half key a d b xs z ∧ SortedK key (mids z a d) ∧ mids z d b = mids y d b := by
  have e := mids_drop (a := d) (b := b) s.behind (Nat.le_refl _)
  refine ⟨⟨s.len.trans h.len, s.ahead.trans h.ahead, (drop_le s.behind hdb).trans h.behind, ?_, ?_⟩, s.sorted, e⟩
  · refine EqF.trans ?_ h.same
    rw [mids_app z had hdb, mids_app y had hdb, e]
    exact s.same.app (EqF.refl _ _)
  · intro u hu v hv
    rw [e] at hv
    exact h.le u ((s.same.length u).1 hu) v hv
theorem Half.second {key : En → Int} {a d b : Nat} {xs y z : List En} (had : a ≤ d) (hdb : d ≤ b) (h : Half key a d b xs y) (s : SSR key d b y z) : Half key a d b xs z ∧ SortedK key (mids z d b) ∧ mids z a d = mids y a d := by
  have e := mids_take (a := a) s.ahead (Nat.le_refl _)
  refine ⟨⟨s.len.trans h.len, (take_le s.ahead had).trans h.ahead, s.behind.trans h.behind, ?_, ?_⟩, s.sorted, e⟩
  · refine EqF.trans ?_ h.same
    rw [mids_app z had hdb, mids_app y had hdb, e]
    exact (EqF.refl _ _).app s.same
  · intro u hu v hv
    rw [e] at hu
    exact h.le u hu v ((s.same.length v).1 hv)
theorem Half.done {key : En → Int} {a d b : Nat} {xs y : List En} (had : a ≤ d) (hdb : d ≤ b) (h : Half key a d b xs y) (s1 : SortedK key (mids y a d)) (s2 : SortedK key (mids y d b)) : SSR key a b xs y :=
  ⟨h.len, h.ahead, h.behind, by rw [mids_app y had hdb]; exact sorted_app s1 s2 h.le, h.same⟩
theorem mids_nil {α : Type} (l : List α) {a b : Nat} (h : b ≤ a) : mids l a b = [] := by
  unfold mids
  exact List.drop_eq_nil_of_le (by rw [List.length_take]; omega)
theorem rotL_triv (xs : List En) {a m b : Nat} (h1 : a ≤ m) (h2 : m ≤ b) (h : a = m ∨ m = b) : rotL xs a m b = xs := by
  unfold rotL
  rcases h with rfl | rfl
  · rw [mids_nil xs (Nat.le_refl a), List.append_nil]
    exact (split3 xs h2).symm
  · rw [mids_nil xs (Nat.le_refl m), List.append_nil]
    exact (split3 xs h1).symm
theorem sorted_at {key : En → Int} {xs : List En} {a b i j : Nat} (hb : b ≤ xs.length) (h : SortedK key (mids xs a b)) (hi : a ≤ i) (hij : i ≤ j) (hj : j < b) : key (xs.getD i (0, 0)) ≤ key (xs.getD j (0, 0)) := by
  rcases Nat.eq_or_lt_of_le hij with rfl | hlt
  · exact Int.le_refl _
  have hl := mids_length xs (a := a) hb
  have := List.pairwise_iff_getElem.1 h (i - a) (j - a) (by omega) (by omega) (by omega)
  have gi : (mids xs a b)[i - a]? = xs[i]? := by rw [mids_get, if_pos (by omega), show a + (i - a) = i by omega]
  have gj : (mids xs a b)[j - a]? = xs[j]? := by rw [mids_get, if_pos (by omega), show a + (j - a) = j by omega]
  rw [getD_some (l := xs) (0, 0) (by omega), List.getElem?_eq_getElem (by omega)] at gi
  rw [getD_some (l := xs) (0, 0) (by omega), List.getElem?_eq_getElem (by omega)] at gj
  rw [Option.some.inj gi, Option.some.inj gj] at this
  exact this
theorem mem_mids {xs : List En} {a b : Nat} (hb : b ≤ xs.length) {u : En} (h : u ∈ mids xs a b) : ∃ i, a ≤ i ∧ i < b ∧ u = xs.getD i (0, 0) := by
  obtain ⟨i, hi, rfl⟩ := List.mem_iff_getElem.1 h
  have hl := mids_length xs (a := a) hb
  refine ⟨a + i, by omega, by omega, ?_⟩
  have gi : (mids xs a b)[i]? = xs[a + i]? := by rw [mids_get, if_pos (by omega)]
  rw [getD_some (l := xs) (0, 0) (by omega), List.getElem?_eq_getElem (by omega)] at gi
  exact Option.some.inj gi
theorem rot_mids (xs : List En) {a s m e b d : Nat} (h1 : a ≤ s) (h2 : s ≤ m) (h3 : m ≤ e) (h4 : e ≤ b) (hb : b ≤ xs.length) (hd : d = s + (e - m)) :
    mids (rotL xs s m e) a s = mids xs a s ∧ mids (rotL xs s m e) s d = mids xs m e ∧ mids (rotL xs s m e) d e = mids xs s m ∧ mids (rotL xs s m e) e b = mids xs e b := by
  have g := rotL_get xs (a := s) (m := m) (b := e) h2 h3 (by omega)
  refine ⟨?_, ?_, ?_, ?_⟩ <;>
  · apply List.ext_getElem?
    intro i
    rw [mids_get, mids_get, g]
    repeat' split
    all_goals first | rfl | omega | (congr 1; omega)
theorem sym_half {key : En → Int} {xs : List En} {a m b d s e : Nat} (h1 : a ≤ s) (h2 : s ≤ m) (h3 : m ≤ e) (h4 : e ≤ b) (hb : b ≤ xs.length) (hd : d = s + (e - m)) (s1 : SortedK key (mids xs a m)) (s2 : SortedK key (mids xs m b))
    (hlo : s = a ∨ e = b ∨ key (xs.getD (s - 1) (0, 0)) ≤ key (xs.getD e (0, 0))) (hhi : s = m ∨ e = m ∨ key (xs.getD (e - 1) (0, 0)) < key (xs.getD s (0, 0))) : Half key a d b xs (rotL xs s m e) ∧
      SortedK key (mids (rotL xs s m e) a s) ∧ SortedK key (mids (rotL xs s m e) s d) ∧ SortedK key (mids (rotL xs s m e) d e) ∧ SortedK key (mids (rotL xs s m e) e b) := by
  obtain ⟨g1, g2, g3, g4⟩ := rot_mids xs h1 h2 h3 h4 hb hd
  have hm := mids_length xs (a := a) (show m ≤ xs.length by omega)
  have t1 : SortedK key (mids xs a s) ∧ SortedK key (mids xs s m) := by
    rw [mids_app xs h1 h2] at s1
    exact ⟨(List.pairwise_append.1 s1).1, (List.pairwise_append.1 s1).2.1⟩
  have t2 : SortedK key (mids xs m e) ∧ SortedK key (mids xs e b) := by
    rw [mids_app xs h3 h4] at s2
    exact ⟨(List.pairwise_append.1 s2).1, (List.pairwise_append.1 s2).2.1⟩
  have lt : ∀ x ∈ mids xs m e, ∀ y ∈ mids xs s m, key x < key y := by
    intro x hx y hy
    obtain ⟨i, i1, i2, rfl⟩ := mem_mids (by omega) hx
    obtain ⟨j, j1, j2, rfl⟩ := mem_mids (by omega) hy
    rcases hhi with h | h | h
    · omega
    · omega
    · have := sorted_at (by omega) s2 i1 (show i ≤ e - 1 by omega) (by omega)
      have := sorted_at (by omega) s1 h1 j1 (by omega)
      omega
  refine ⟨⟨rotL_length xs h2 h3 (by omega), ?_, ?_, ?_, ?_⟩, by rw [g1]; exact t1.1, by rw [g2]; exact t2.1, by rw [g3]; exact t1.2, by rw [g4]; exact t2.2⟩
  · apply List.ext_getElem?
    intro i
    rw [List.getElem?_take, List.getElem?_take, rotL_get xs h2 h3 (by omega)]
    split
    · rw [if_pos (by omega)]
    · rfl
  · apply List.ext_getElem?
    intro i
    rw [List.getElem?_drop, List.getElem?_drop, rotL_get xs h2 h3 (by omega), if_neg (by omega), if_neg (by omega), if_neg (by omega)]
  · rw [mids_app _ h1 (show s ≤ b by omega), mids_app _ (show s ≤ d by omega) (show d ≤ b by omega), mids_app _ (show d ≤ e by omega) h4, g1, g2, g3, g4, mids_app xs h1 (show s ≤ b by omega), mids_app xs h2 (show m ≤ b by omega), mids_app xs h3 h4]
    refine (EqF.refl _ _).app ?_
    rw [← List.append_assoc, ← List.append_assoc]
    exact (EqF.swap fun x hx y hy => Int.ne_of_lt (lt x hx y hy)).app (EqF.refl _ _)
  · intro u hu v hv
    rw [mids_app _ h1 (show s ≤ d by omega), g1, g2] at hu
    rw [mids_app _ (show d ≤ e by omega) h4, g3, g4] at hv
    rcases List.mem_append.1 hu with hu | hu <;> rcases List.mem_append.1 hv with hv | hv
    · obtain ⟨i, i1, i2, rfl⟩ := mem_mids (by omega) hu
      obtain ⟨j, j1, j2, rfl⟩ := mem_mids (by omega) hv
      exact sorted_at (by omega) s1 i1 (by omega) (by omega)
    · obtain ⟨i, i1, i2, rfl⟩ := mem_mids (by omega) hu
      obtain ⟨j, j1, j2, rfl⟩ := mem_mids (by omega) hv
      rcases hlo with h | h | h
      · omega
      · omega
      · have := sorted_at (by omega) s1 i1 (show i ≤ s - 1 by omega) (by omega)
        have := sorted_at (by omega) s2 h3 j1 (by omega)
        omega
    · exact Int.le_of_lt (lt u hu v hv)
    · obtain ⟨i, i1, i2, rfl⟩ := mem_mids (by omega) hu
      obtain ⟨j, j1, j2, rfl⟩ := mem_mids (by omega) hv
      exact sorted_at (by omega) s2 i1 (by omega) (by omega)
/-! ### the tail -/
theorem sy2_ok {key : En → Int} {n : Nat} {xs y : List En} {a d b e : Nat} (had : a ≤ d) (hde : d ≤ e) (heb : e ≤ b) (hb : b ≤ xs.length) (hm : xs.length ≤ most) (hn : b ≤ d + n) (h : Half key a d b xs y) (s1 : SortedK key (mids y a d)) (s2 : SortedK key (mids y d e)) (s3 : SortedK key (mids y e b)) :
    sy2 key n xs a b (d : Int) (e : Int) y := by
  unfold sy2
  refine ifB_d (fun h1 => ifB_d (fun h2 => ⟨(y, d, e, b), h.len.symm, rfl, rfl, rfl, rfl, ⟨by dsimp only; omega, by dsimp only; omega, by dsimp only; rw [h.len]; exact hb, by dsimp only; rw [h.len]; exact hm, hn, s2, s3⟩, fun z hz => ?_⟩) fun h2 => ⟨y, ?_, rfl, trivial⟩) fun h1 => ⟨y, ?_, rfl, trivial⟩
  · obtain ⟨q1, q2, q3⟩ := h.second had (by omega) hz
    exact ⟨z, q1.done had (by omega) (by rw [q3]; exact s1) q2, rfl, trivial⟩
  · have : e = b := by omega
    subst this
    exact h.done had (by omega) s1 s2
  · have : e = d := by omega
    subst this
    exact h.done had (by omega) s1 s3
theorem sy1_ok {key : En → Int} {n : Nat} {xs y : List En} {a s d b e : Nat} (has : a ≤ s) (hsd : s ≤ d) (hde : d ≤ e) (heb : e ≤ b) (hb : b ≤ xs.length) (hm : xs.length ≤ most) (hn : d ≤ a + n) (hn2 : b ≤ d + n) (h : Half key a d b xs y) (s0 : SortedK key (mids y a s)) (s1 : SortedK key (mids y s d)) (s2 : SortedK key (mids y d e)) (s3 : SortedK key (mids y e b)) :
    sy1 key n xs a b (d : Int) (s : Int) (e : Int) y := by
  unfold sy1
  refine ifB_d (fun h1 => ifB_d (fun h2 => ⟨(y, a, s, d), h.len.symm, rfl, rfl, rfl, rfl, ⟨by dsimp only; omega, by dsimp only; omega, by dsimp only; rw [h.len]; omega, by dsimp only; rw [h.len]; exact hm, hn, s0, s1⟩, fun z hz => ?_⟩) fun h2 => ?_) fun h1 => ?_
  · obtain ⟨q1, q2, q3⟩ := h.first (by omega) (by omega) hz
    have e1 := mids_drop (a := d) (b := e) hz.behind (Nat.le_refl _)
    have e2 := mids_drop (a := e) (b := b) hz.behind (by exact hde)
    exact sy2_ok (by omega) hde heb hb hm hn2 q1 q2 (by rw [e1]; exact s2) (by rw [e2]; exact s3)
  · have : s = d := by omega
    subst this
    exact sy2_ok (by omega) hde heb hb hm hn2 h s0 s2 s3
  · have : s = a := by omega
    subst this
    exact sy2_ok (by omega) hde heb hb hm hn2 h s1 s2 s3
theorem sy0_ok {key : En → Int} {n : Nat} {xs : List En} {a s m d b e : Nat} (has : a ≤ s) (hsm : s ≤ m) (hme : m ≤ e) (heb : e ≤ b) (hd : d = s + (e - m)) (hb : b ≤ xs.length) (hm : xs.length ≤ most) (hn : d ≤ a + n) (hn2 : b ≤ d + n) (s1 : SortedK key (mids xs a m)) (s2 : SortedK key (mids xs m b))
    (hlo : s = a ∨ e = b ∨ key (xs.getD (s - 1) (0, 0)) ≤ key (xs.getD e (0, 0))) (hhi : s = m ∨ e = m ∨ key (xs.getD (e - 1) (0, 0)) < key (xs.getD s (0, 0))) : sy0 key n xs a m b (d : Int) (s : Int) (e : Int) := by
  obtain ⟨h, t0, t1, t2, t3⟩ := sym_half has hsm hme heb hb hd s1 s2 hlo hhi
  have fin := sy1_ok has (by omega) (by omega) heb hb hm hn hn2 h t0 t1 t2 t3
  unfold sy0
  refine ifB_d (fun h1 => ifB_d (fun h2 => ⟨(xs, s, m, e), rfl, rfl, rfl, rfl, rfl, ⟨by dsimp only; omega, by dsimp only; omega, by dsimp only; omega, hm⟩, fun z hz => ?_⟩) fun h2 => ?_) fun h1 => ?_
  · dsimp only at hz
    rw [hz]
    exact fin
  · rw [rotL_triv xs hsm hme (by omega)] at fin
    exact fin
  · rw [rotL_triv xs hsm hme (by omega)] at fin
    exact fin
theorem half_eq {x y : Int} (hx : 0 ≤ x) (hy : 0 ≤ y) (hxy : x + y < 18446744073709551616) : (x + y) % 18446744073709551616 / 2 = (x + y) / 2 := by
  rw [Int.emod_eq_of_lt (by omega) hxy]
theorem cmpK_nn (key : En → Int) (x y : En) : ¬ cmpK key x y < 0 ↔ key y ≤ key x := by
  rw [cmpK_neg]
  omega
theorem syS_ok {key : En → Int} {n : Nat} {xs : List En} {a m b d s0 r0 : Nat} (h1 : a ≤ s0) (h2 : s0 ≤ r0) (h3 : r0 ≤ m) (h4 : m ≤ d + m - r0) (h5 : d + m - s0 ≤ b) (h0 : s0 = a ∨ d + m - s0 = b) (h6 : r0 = m ∨ r0 = d) (hb : b ≤ xs.length) (hm : xs.length ≤ most) (hn : d ≤ a + n) (hn2 : b ≤ d + n) (s1 : SortedK key (mids xs a m)) (s2 : SortedK key (mids xs m b)) :
    syS key n xs a m b (d : Int) (s0 : Int) (r0 : Int) := by
  have hm' : xs.length ≤ 1000000 := hm
  unfold syS
  refine ⟨fun x => (s0 : Int) ≤ x.1 ∧ x.1 ≤ x.2 ∧ x.2 ≤ r0 ∧ (x.1 = s0 ∨ key (xs.getD (x.1 - 1).toNat (0, 0)) ≤ key (xs.getD (d + m - x.1).toNat (0, 0))) ∧ (x.2 = r0 ∨ key (xs.getD (d + m - 1 - x.2).toNat (0, 0)) < key (xs.getD x.2.toNat (0, 0))),
    fun x => (x.2 - x.1).toNat, ⟨(s0, r0), ⟨by dsimp only; omega, by dsimp only; omega, by dsimp only; omega, .inl rfl, .inl rfl⟩, rfl, rfl, trivial⟩, ?_⟩
  rintro ⟨i, j⟩ ⟨i1, i2, i3, i4, i5⟩
  dsimp only at i1 i2 i3 i4 i5 ⊢
  rw [half_eq (by omega) (by omega) (by omega)]
  have hr0 : r0 ≤ d := by omega
  refine ifB_d (fun h => ⟨by omega, by omega, by omega, by omega, by omega, by omega, (_, _), rfl, rfl, rfl, rfl, trivial, fun _ _ => ifB_nd (fun hc => ?_) fun hc => ?_⟩) fun h => ⟨by omega, ?_⟩
  · rw [cmpK_nn] at hc
    refine ⟨by omega, ((i + j) / 2 + 1, j), ⟨by dsimp only; omega, by dsimp only; omega, by dsimp only; omega, .inr ?_, i5⟩, by dsimp only; omega, rfl, rfl, trivial⟩
    dsimp only
    rw [show ((i + j) / 2 + 1 - 1).toNat = ((i + j) / 2).toNat by omega, show ((d : Int) + m - ((i + j) / 2 + 1)).toNat = ((d : Int) + m - 1 - (i + j) / 2).toNat by omega]
    exact hc
  · rw [cmpK_neg] at hc
    exact ⟨(i, (i + j) / 2), ⟨by dsimp only; omega, by dsimp only; omega, by dsimp only; omega, i4, .inr hc⟩, by dsimp only; omega, rfl, rfl, trivial⟩
  · have hij : i = j := by omega
    subst hij
    have := sy0_ok (key := key) (n := n) (xs := xs) (a := a) (s := i.toNat) (m := m) (d := d) (b := b) (e := d + m - i.toNat) (by omega) (by omega) (by omega) (by omega) (by omega) hb hm hn hn2 s1 s2 ?_ ?_
    · rw [show ((i.toNat : Nat) : Int) = i by omega, show ((d + m - i.toNat : Nat) : Int) = (d : Int) + m - i by omega] at this
      exact this
    · rcases i4 with h | h
      · omega
      · rw [show (i - 1).toNat = i.toNat - 1 by omega, show ((d : Int) + m - i).toNat = d + m - i.toNat by omega] at h
        exact .inr (.inr h)
    · rcases i5 with h | h
      · omega
      · rw [show ((d : Int) + m - 1 - i).toNat = d + m - i.toNat - 1 by omega] at h
        exact .inr (.inr h)
end Sp
end
section
set_option linter.all false
set_option maxRecDepth 10000
namespace Sp
open Go Go.Proofs Sx Go.Proofs.YthnhbnakpmkppaaGreat.Ma
theorem up_step (xs : List En) {a k : Nat} (hk : a ≤ k) (hl : k + 1 < xs.length) :
    ((rotL xs a (a + 1) (k + 1)).set k ((rotL xs a (a + 1) (k + 1)).getD (k + 1) (0, 0))).set (k + 1) ((rotL xs a (a + 1) (k + 1)).getD k (0, 0)) = rotL xs a (a + 1) (k + 2) := by
  have hL := rotL_length xs (a := a) (m := a + 1) (b := k + 1) (by omega) (by omega) (by omega)
  have g := rotL_get xs (a := a) (m := a + 1) (b := k + 1) (by omega) (by omega) (by omega)
  have e1 := getD_some (l := rotL xs a (a + 1) (k + 1)) (i := k + 1) (0, 0) (by omega)
  have e2 := getD_some (l := rotL xs a (a + 1) (k + 1)) (i := k) (0, 0) (by omega)
  apply List.ext_getElem?
  intro j
  rw [List.getElem?_set, List.getElem?_set, rotL_get xs (a := a) (m := a + 1) (b := k + 2) (by omega) (by omega) (by omega) j]
  by_cases c1 : k + 1 = j
  · subst c1
    rw [if_pos rfl, if_pos (by rw [List.length_set]; omega), ← e2, g, if_neg (by omega), if_neg (by omega), if_pos (by omega), if_neg (by omega), if_neg (by omega), if_pos (by omega)]
    congr 1
    omega
  rw [if_neg c1]
  by_cases c2 : k = j
  · subst c2
    rw [if_pos rfl, if_pos (by omega), ← e1, g, if_neg (by omega), if_neg (by omega), if_neg (by omega), if_neg (by omega), if_pos (by omega)]
    congr 1
    omega
  rw [if_neg c2, g j]
  repeat' split
  all_goals first | rfl | omega
theorem down_step (xs : List En) {m k : Nat} (hk : k + 1 ≤ m) (hl : m < xs.length) :
    ((rotL xs (k + 1) m (m + 1)).set (k + 1) ((rotL xs (k + 1) m (m + 1)).getD k (0, 0))).set k ((rotL xs (k + 1) m (m + 1)).getD (k + 1) (0, 0)) = rotL xs k m (m + 1) := by
  have hL := rotL_length xs (a := k + 1) (m := m) (b := m + 1) (by omega) (by omega) (by omega)
  have g := rotL_get xs (a := k + 1) (m := m) (b := m + 1) (by omega) (by omega) (by omega)
  have e1 := getD_some (l := rotL xs (k + 1) m (m + 1)) (i := k + 1) (0, 0) (by omega)
  have e2 := getD_some (l := rotL xs (k + 1) m (m + 1)) (i := k) (0, 0) (by omega)
  apply List.ext_getElem?
  intro j
  rw [List.getElem?_set, List.getElem?_set, rotL_get xs (a := k) (m := m) (b := m + 1) (by omega) (by omega) (by omega) j]
  by_cases c1 : k = j
  · subst c1
    rw [if_pos rfl, if_pos (by rw [List.length_set]; omega), ← e1, g, if_neg (by omega), if_pos (by omega), if_neg (by omega), if_pos (by omega)]
    congr 1
    omega
  rw [if_neg c1]
  by_cases c2 : k + 1 = j
  · subst c2
    rw [if_pos rfl, if_pos (by omega), ← e2, g, if_pos (by omega), if_neg (by omega), if_neg (by omega), if_pos (by omega)]
    congr 1
    omega
  rw [if_neg c2, g j]
  repeat' split
  all_goals first | rfl | omega
theorem one_left {key : En → Int} {xs : List En} {a b i : Nat} (h1 : a + 1 ≤ i) (h2 : i ≤ b) (hb : b ≤ xs.length) (s2 : SortedK key (mids xs (a + 1) b))
    (hlo : i = a + 1 ∨ key (xs.getD (i - 1) (0, 0)) < key (xs.getD a (0, 0))) (hhi : i = b ∨ key (xs.getD a (0, 0)) ≤ key (xs.getD i (0, 0))) : SSR key a b xs (rotL xs a (a + 1) i) := by
  have s1 : SortedK key (mids xs a (a + 1)) := by
    rw [mids_snoc xs (Nat.le_refl a) (by omega), mids_nil xs (Nat.le_refl a)]
    exact List.pairwise_singleton _ _
  obtain ⟨h, t0, t1, t2, t3⟩ := sym_half (s := a) (m := a + 1) (e := i) (d := a + (i - (a + 1))) (Nat.le_refl a) (by omega) h1 h2 hb rfl s1 s2 (.inl rfl) (by omega)
  refine h.done (by omega) (by omega) t1 ?_
  obtain ⟨g1, g2, g3, g4⟩ := rot_mids xs (Nat.le_refl a) (show a ≤ a + 1 by omega) h1 h2 hb rfl
  rw [mids_app _ (show a + (i - (a + 1)) ≤ i by omega) h2]
  refine sorted_app t2 t3 fun u hu v hv => ?_
  rw [g3] at hu
  rw [g4] at hv
  obtain ⟨p, p1, p2, rfl⟩ := mem_mids (by omega) hu
  obtain ⟨q, q1, q2, rfl⟩ := mem_mids (by omega) hv
  obtain rfl : p = a := by omega
  rcases hhi with h | h
  · omega
  · have := sorted_at hb s2 h1 q1 q2
    omega
theorem one_right {key : En → Int} {xs : List En} {a m i : Nat} (h1 : a ≤ i) (h2 : i ≤ m) (hb : m + 1 ≤ xs.length) (s1 : SortedK key (mids xs a m))
    (hlo : i = a ∨ key (xs.getD (i - 1) (0, 0)) ≤ key (xs.getD m (0, 0))) (hhi : i = m ∨ key (xs.getD m (0, 0)) < key (xs.getD i (0, 0))) : SSR key a (m + 1) xs (rotL xs i m (m + 1)) := by
  have s2 : SortedK key (mids xs m (m + 1)) := by
    rw [mids_snoc xs (Nat.le_refl m) (by omega), mids_nil xs (Nat.le_refl m)]
    exact List.pairwise_singleton _ _
  obtain ⟨h, t0, t1, t2, t3⟩ := sym_half (s := i) (m := m) (e := m + 1) (b := m + 1) (d := i + 1) h1 h2 (by omega) (Nat.le_refl _) hb (by omega) s1 s2 (.inr (.inl rfl)) (by rw [Nat.add_sub_cancel]; omega)
  obtain ⟨g1, g2, g3, g4⟩ := rot_mids (d := i + 1) xs h1 h2 (show m ≤ m + 1 by omega) (Nat.le_refl (m + 1)) hb (by omega)
  refine h.done (by omega) (by omega) ?_ t2
  rw [mids_app _ h1 (show i ≤ i + 1 by omega)]
  refine sorted_app t0 t1 fun u hu v hv => ?_
  rw [g1] at hu
  rw [g2] at hv
  obtain ⟨p, p1, p2, rfl⟩ := mem_mids (by omega) hu
  obtain ⟨q, q1, q2, rfl⟩ := mem_mids (by omega) hv
  obtain rfl : q = m := by omega
  rcases hlo with h | h
  · omega
  · have := sorted_at (by omega) s1 p1 (show p ≤ i - 1 by omega) (by omega)
    omega
theorem p_vsym (key : En → Int) : T_vsym key := by
  unfold T_vsym; try dsimp only [H_SpYt_8, H_SpYt_10, H_SpYt_7, H_SpYt_9, H_SpYt_4, H_SpYt_1, H_SpYt_6, H_SpYt_3, H_SpYt_11, H_SpYt_2, H_SpYt_5]
  rintro n ⟨xs, a, m, b⟩ ⟨h1, h2, h3, h4, h5, s1, s2⟩
  dsimp only at h1 h2 h3 h4 h5 s1 s2 ⊢
  have hl : xs.length ≤ 1000000 := h4
  refine ⟨by omega, ifB_d (fun hm => ?_) fun hm => ⟨by omega, ifB_d (fun hb => ?_) fun hb => ?_⟩⟩
  · obtain rfl : m = a + 1 := by omega
    refine ⟨fun x => (a : Int) + 1 ≤ x.1 ∧ x.1 ≤ x.2 ∧ x.2 ≤ b ∧ (x.1 = a + 1 ∨ key (xs.getD (x.1 - 1).toNat (0, 0)) < key (xs.getD a (0, 0))) ∧ (x.2 = b ∨ key (xs.getD a (0, 0)) ≤ key (xs.getD x.2.toNat (0, 0))),
      fun x => (x.2 - x.1).toNat, ⟨(((a + 1 : Nat) : Int), (b : Int)), ⟨by dsimp only; omega, by dsimp only; omega, by dsimp only; omega, .inl (by dsimp only; omega), .inl rfl⟩, rfl, rfl, trivial⟩, ?_⟩
    rintro ⟨i, j⟩ ⟨i1, i2, i3, i4, i5⟩
    dsimp only at i1 i2 i3 i4 i5 ⊢
    rw [half_eq (by omega) (by omega) (by omega)]
    refine ifB_d (fun h => ⟨by omega, by omega, by omega, by omega, by omega, (_, _), rfl, rfl, rfl, rfl, trivial, fun _ _ => ifB_d (fun hc => ?_) fun hc => ?_⟩) fun h => ?_
    · rw [cmpK_neg] at hc
      refine ⟨by omega, ((i + j) / 2 + 1, j), ⟨by dsimp only; omega, by dsimp only; omega, by dsimp only; omega, .inr ?_, i5⟩, by dsimp only; omega, rfl, rfl, trivial⟩
      dsimp only
      rw [show ((i + j) / 2 + 1 - 1).toNat = ((i + j) / 2).toNat by omega]
      exact hc
    · rw [cmpK_neg] at hc
      exact ⟨(i, (i + j) / 2), ⟨by dsimp only; omega, by dsimp only; omega, by dsimp only; omega, i4, .inr (Int.not_lt.1 hc)⟩, by dsimp only; omega, rfl, rfl, trivial⟩
    · have hij : i = j := by omega
      subst hij
      have key' := one_left (i := i.toNat) (by omega) (by omega) h3 s2 (by
        rcases i4 with h | h
        · exact .inl (by omega)
        · exact .inr (by rw [show (i - 1).toNat = i.toNat - 1 by omega] at h; exact h)) (by
        rcases i5 with h | h
        · exact .inl (by omega)
        · exact .inr h)
      refine ⟨fun x => (a : Int) ≤ x.1 ∧ x.1 ≤ i - 1 ∧ x.2 = rotL xs a (a + 1) (x.1.toNat + 1), fun x => (i - x.1).toNat, ⟨((a : Int), xs), ⟨by dsimp only; omega, by dsimp only; omega, (rotL_triv xs (by omega) (by dsimp only; omega) (.inr (by dsimp only; omega))).symm⟩, rfl, rfl, trivial⟩, ?_⟩
      rintro ⟨k, ys⟩ ⟨k1, k2, k3⟩
      dsimp only at k1 k2 k3 ⊢
      subst k3
      refine ⟨by omega, ifB_d (fun hk => ⟨by omega, by omega, by omega, by omega, by omega, by omega, by omega, (k + 1, rotL xs a (a + 1) (k.toNat + 2)), ⟨by dsimp only; omega, by dsimp only; omega, by dsimp only; congr 1; omega⟩, by dsimp only; omega, rfl, ?_, trivial⟩) fun hk => ⟨_, key', ?_, trivial⟩⟩
      · rw [show (k + 1).toNat = k.toNat + 1 by omega]
        exact up_step xs (by omega) (by omega)
      · rw [show k.toNat + 1 = i.toNat by omega]
  · obtain rfl : b = m + 1 := by omega
    refine ⟨fun x => (a : Int) ≤ x.1 ∧ x.1 ≤ x.2 ∧ x.2 ≤ m ∧ (x.1 = a ∨ key (xs.getD (x.1 - 1).toNat (0, 0)) ≤ key (xs.getD m (0, 0))) ∧ (x.2 = m ∨ key (xs.getD m (0, 0)) < key (xs.getD x.2.toNat (0, 0))),
      fun x => (x.2 - x.1).toNat, ⟨((a : Int), (m : Int)), ⟨by dsimp only; omega, by dsimp only; omega, by dsimp only; omega, .inl rfl, .inl rfl⟩, rfl, rfl, trivial⟩, ?_⟩
    rintro ⟨i, j⟩ ⟨i1, i2, i3, i4, i5⟩
    dsimp only at i1 i2 i3 i4 i5 ⊢
    rw [half_eq (by omega) (by omega) (by omega)]
    refine ifB_d (fun h => ⟨by omega, by omega, by omega, by omega, by omega, (_, _), rfl, rfl, rfl, rfl, trivial, fun _ _ => ifB_nd (fun hc => ?_) fun hc => ?_⟩) fun h => ?_
    · rw [cmpK_nn] at hc
      refine ⟨by omega, ((i + j) / 2 + 1, j), ⟨by dsimp only; omega, by dsimp only; omega, by dsimp only; omega, .inr ?_, i5⟩, by dsimp only; omega, rfl, rfl, trivial⟩
      dsimp only
      rw [show ((i + j) / 2 + 1 - 1).toNat = ((i + j) / 2).toNat by omega]
      exact hc
    · rw [cmpK_neg] at hc
      exact ⟨(i, (i + j) / 2), ⟨by dsimp only; omega, by dsimp only; omega, by dsimp only; omega, i4, .inr hc⟩, by dsimp only; omega, rfl, rfl, trivial⟩
    · have hij : i = j := by omega
      subst hij
      have key' := one_right (i := i.toNat) (by omega) (by omega) h3 s1 (by
        rcases i4 with h | h
        · exact .inl (by omega)
        · exact .inr (by rw [show (i - 1).toNat = i.toNat - 1 by omega] at h; exact h)) (by
        rcases i5 with h | h
        · exact .inl (by omega)
        · exact .inr h)
      refine ⟨fun x => i ≤ x.1 ∧ x.1 ≤ m ∧ x.2 = rotL xs x.1.toNat m (m + 1), fun x => x.1.toNat, ⟨((m : Int), xs), ⟨by dsimp only; omega, by dsimp only; omega, (rotL_triv xs (by dsimp only; omega) (by omega) (.inl (by dsimp only; omega))).symm⟩, rfl, rfl, trivial⟩, ?_⟩
      rintro ⟨k, ys⟩ ⟨k1, k2, k3⟩
      dsimp only at k1 k2 k3 ⊢
      subst k3
      refine ifB_d (fun hk => ⟨by omega, by omega, by omega, by omega, by omega, by omega, by omega, (k - 1, rotL xs (k - 1).toNat m (m + 1)), ⟨by dsimp only; omega, by dsimp only; omega, rfl⟩, by dsimp only; omega, rfl, ?_, trivial⟩) fun hk => ⟨_, key', ?_, trivial⟩
      · dsimp only
        have := down_step xs (m := m) (k := (k - 1).toNat) (by omega) (by omega)
        rw [show (k - 1).toNat + 1 = k.toNat by omega] at this
        exact this
      · rw [show k.toNat = i.toNat by omega]
  · have hmd : ((a : Int) + b) % 18446744073709551616 / 2 = (((a + b) / 2 : Nat) : Int) := by omega
    rw [hmd]
    refine ⟨by omega, by omega, by omega, by omega, ifB_d (fun hd => ?_) fun hd => ?_⟩
    · refine ⟨by omega, by omega, ?_⟩
      have := syS_ok (key := key) (n := n) (xs := xs) (a := a) (m := m) (b := b) (d := (a + b) / 2) (s0 := (a + b) / 2 + m - b) (r0 := (a + b) / 2) (by omega) (by omega) (by omega) (by omega) (by omega) (by omega) (by omega) h3 h4 (by omega) (by omega) s1 s2
      rw [show (((a + b) / 2 + m - b : Nat) : Int) = (((a + b) / 2 : Nat) : Int) + m - b by omega] at this
      exact this
    · refine ⟨by omega, ?_⟩
      exact syS_ok (key := key) (n := n) (xs := xs) (a := a) (m := m) (b := b) (d := (a + b) / 2) (s0 := a) (r0 := m) (by omega) (by omega) (by omega) (by omega) (by omega) (by omega) (by omega) h3 h4 (by omega) (by omega) s1 s2
end Sp
end
section
set_option linter.all false
namespace Sp
open Go Go.Proofs Sx Go.Proofs.YthnhbnakpmkppaaGreat.Ma
def Z1 : List (Nat × Con) := (314, SymS 294 key1 most) :: (313, InsS 294 key1) :: V1
def Z0 : List (Nat × Con) := (314, SymS 293 key0 most) :: (313, InsS 293 key0) :: V1
end Sp
end
section
set_option linter.all false
set_option maxRecDepth 100000
namespace Sp
open Go Go.Proofs Sx
@[reducible] def H_SpZt_1 (v1 : List En × Nat × Nat × Nat) (v2 : En → Int) : Prop :=
 v1.2.1 < v1.2.2.1 /\ v1.2.2.1 < v1.2.2.2 /\ v1.2.2.2 <= v1.1.length /\ v1.1.length <= most /\ v1.2.2.2 <= v1.2.1 + most /\ List.Pairwise (fun (a b : En) => v2 a <= v2 b) (mids v1.1 v1.2.1 v1.2.2.1) /\
 List.Pairwise (fun (a b : En) => v2 a <= v2 b) (mids v1.1 v1.2.2.1 v1.2.2.2)
def T_vstab (key : En → Int) : Prop :=
 ∀ (x : List En), x.length <= most -> ∃ (I : Int × Int × List En -> Prop), ∃ (μ : Int × Int × List En -> Nat), (∃ (x_1 : Int × Int × List En), I x_1 /\ (0 : Int) = x_1.1 /\ (20 : Int) = x_1.2.1 /\ x =
 x_1.2.2 /\ True) /\ ∀ (x_1 : Int × Int × List En), I x_1 -> ifB (decide (x_1.2.1 <= (↑x.length : Int))) (∃ (x_2 : List En × Nat × Nat), x.length = x_2.1.length /\ x_1.1 = (↑x_2.2.1 : Int) /\ x_1.2.1 =
 (↑x_2.2.2 : Int) /\ x_1.2.2 = x_2.1 /\ (x_2.2.1 <= x_2.2.2 /\ x_2.2.2 <= x_2.1.length /\ x_2.1.length <= most) /\ ∀ (y : List En), SSR key x_2.2.1 x_2.2.2 x_2.1 y -> ((-9223372036854775808 : Int) <=
 x_1.2.1 + (20 : Int) /\ x_1.2.1 + (20 : Int) <= (9223372036854775807 : Int)) /\ ∃ (y_1 : Int × Int × List En), I y_1 /\ μ y_1 < μ x_1 /\ x_1.2.1 = y_1.1 /\ x_1.2.1 + (20 : Int) = y_1.2.1 /\ y =
 y_1.2.2 /\ True) (∃ (x_2 : List En × Nat × Nat), x.length = x_2.1.length /\ x_1.1 = (↑x_2.2.1 : Int) /\ (↑x.length : Int) = (↑x_2.2.2 : Int) /\ x_1.2.2 = x_2.1 /\ (x_2.2.1 <= x_2.2.2 /\ x_2.2.2 <=
 x_2.1.length /\ x_2.1.length <= most) /\ ∀ (y : List En), SSR key x_2.2.1 x_2.2.2 x_2.1 y -> ∃ (I : Int × List En -> Prop), ∃ (μ : Int × List En -> Nat), (∃ (x : Int × List En), I x /\ (20 : Int) =
 x.1 /\ y = x.2 /\ True) /\ ∀ (x_3 : Int × List En), I x_3 -> ifB (decide (x_3.1 < (↑x.length : Int))) (((-9223372036854775808 : Int) <= (2 : Int) * x_3.1 /\ (2 : Int) * x_3.1 <= (9223372036854775807 :
 Int)) /\ ∃ (I_1 : Int × Int × List En -> Prop), ∃ (μ_1 : Int × Int × List En -> Nat), (∃ (x : Int × Int × List En), I_1 x /\ (0 : Int) = x.1 /\ (2 : Int) * x_3.1 = x.2.1 /\ x_3.2 = x.2.2 /\ True) /\ ∀
 (x_4 : Int × Int × List En), I_1 x_4 -> ifB (decide (x_4.2.1 <= (↑x.length : Int))) (((-9223372036854775808 : Int) <= x_4.1 + x_3.1 /\ x_4.1 + x_3.1 <= (9223372036854775807 : Int)) /\ ∃ (x_5 : List En
 × Nat × Nat × Nat), x.length = x_5.1.length /\ x_4.1 = (↑x_5.2.1 : Int) /\ x_4.1 + x_3.1 = (↑x_5.2.2.1 : Int) /\ x_4.2.1 = (↑x_5.2.2.2 : Int) /\ x_4.2.2 = x_5.1 /\ (H_SpZt_1 x_5 key) /\ ∀ (y : List
 En), SSR key x_5.2.1 x_5.2.2.2 x_5.1 y -> ((-9223372036854775808 : Int) <= (2 : Int) * x_3.1 /\ (2 : Int) * x_3.1 <= (9223372036854775807 : Int)) /\ ((-9223372036854775808 : Int) <= x_4.2.1 + (2 :
 Int) * x_3.1 /\ x_4.2.1 + (2 : Int) * x_3.1 <= (9223372036854775807 : Int)) /\ ∃ (y_1 : Int × Int × List En), I_1 y_1 /\ μ_1 y_1 < μ_1 x_4 /\ x_4.2.1 = y_1.1 /\ x_4.2.1 + (2 : Int) * x_3.1 = y_1.2.1
 /\ y = y_1.2.2 /\ True) (((-9223372036854775808 : Int) <= x_4.1 + x_3.1 /\ x_4.1 + x_3.1 <= (9223372036854775807 : Int)) /\ ifB (decide (x_4.1 + x_3.1 < (↑x.length : Int))) (∃ (x_5 : List En × Nat ×
 Nat × Nat), x.length = x_5.1.length /\ x_4.1 = (↑x_5.2.1 : Int) /\ x_4.1 + x_3.1 = (↑x_5.2.2.1 : Int) /\ (↑x.length : Int) = (↑x_5.2.2.2 : Int) /\ x_4.2.2 = x_5.1 /\ (H_SpZt_1 x_5 key) /\ ∀ (y : List
 En), SSR key x_5.2.1 x_5.2.2.2 x_5.1 y -> ((-9223372036854775808 : Int) <= x_3.1 * (2 : Int) /\ x_3.1 * (2 : Int) <= (9223372036854775807 : Int)) /\ ∃ (y_1 : Int × List En), I y_1 /\ μ y_1 < μ x_3 /\
 x_3.1 * (2 : Int) = y_1.1 /\ y = y_1.2 /\ True) (((-9223372036854775808 : Int) <= x_3.1 * (2 : Int) /\ x_3.1 * (2 : Int) <= (9223372036854775807 : Int)) /\ ∃ (y : Int × List En), I y /\ μ y < μ x_3 /\
 x_3.1 * (2 : Int) = y.1 /\ x_4.2.2 = y.2 /\ True))) (∃ (y : List En), SSR key (0 : Nat) x.length x y /\ x_3.2 = y /\ True))
theorem o_vstab : owes Tryz.prog (tab Z1) LqV 0 308 Tryz.f308 (StabS 294 key1) = T_vstab key1 := by kernel_rfl
theorem o_vstab0 : owes Tryz.prog (tab Z0) LqV 0 308 Tryz.f308 (StabS 293 key0) = T_vstab key0 := by kernel_rfl
end Sp
end
