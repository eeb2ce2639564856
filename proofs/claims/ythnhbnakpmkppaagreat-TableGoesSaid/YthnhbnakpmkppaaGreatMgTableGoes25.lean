import Derived.ProofKit
import Derived.Test.YthnhbnakpmkppaaGreatMgTableGoes24
section
set_option linter.all false
set_option maxRecDepth 100000
namespace Sp
open Go Go.Proofs Sx
@[reducible] def H_SpL13t_10 (v1 : Int × Int) (v2 : Int × Int → Prop) (v3 : Int × Int → Nat) : Prop :=
 ((-9223372036854775808 : Int) <= v1.2 + (1 : Int) /\ v1.2 + (1 : Int) <= (9223372036854775807 : Int)) /\ ∃ (b1 : Int × Int), v2 b1 /\ v3 b1 < v3 v1 /\ v1.1 + (1 : Int) = b1.1 /\ v1.2 + (1 : Int) =
 b1.2 /\ True
@[reducible] def H_SpL13t_8 (v1 : Pf × Pf) : Prop :=
 (((0 : Int) <= (pA v1.1).1 /\ (pA v1.1).1 < (18446744073709551616 : Int)) /\ (0 : Int) <= (pA v1.1).2.1 /\ (pA v1.1).2.1 < (18446744073709551616 : Int)) /\ ((0 : Int) <= (pA v1.2).1 /\ (pA v1.2).1 <
 (18446744073709551616 : Int)) /\ (0 : Int) <= (pA v1.2).2.1 /\ (pA v1.2).2.1 < (18446744073709551616 : Int)
@[reducible] def H_SpL13t_1 (v1 : Int × Int × List Ac) (v2 : Int × Tb) (v3 : Int × Int) (v4 : Tb) (v5 : Tb × Ac) (v6 : Int × Int → Prop) (v7 : Int × Int → Nat) : Prop :=
 ifB (decide ((v1.2.2.getD v2.1.toNat ((0 : Int), (0 : Int), (0 : Int), false, (0 : Int), (0 : Int))).1 = (4 : Int))) (((0 : Int) <= v3.2 /\ v3.2 < (↑(srtR v4.L).length : Int)) /\ ∃ (b1 : List Rt ×
 Rt), (v5.1.act v5.2).2.2.2.length = b1.1.length /\ ((srtR v4.L).getD v3.2.toNat ((0 : Int), (0 : Int), false, (0 : Int), (0 : Int))).1 = b1.2.1 /\ ((srtR v4.L).getD v3.2.toNat ((0 : Int), (0 : Int),
 false, (0 : Int), (0 : Int))).2.1 = b1.2.2.1 /\ ((srtR v4.L).getD v3.2.toNat ((0 : Int), (0 : Int), false, (0 : Int), (0 : Int))).2.2.1 = b1.2.2.2.1 /\ ((srtR v4.L).getD v3.2.toNat ((0 : Int), (0 :
 Int), false, (0 : Int), (0 : Int))).2.2.2.1 = b1.2.2.2.2.1 /\ ((srtR v4.L).getD v3.2.toNat ((0 : Int), (0 : Int), false, (0 : Int), (0 : Int))).2.2.2.2 = b1.2.2.2.2.2 /\ (v5.1.act v5.2).2.2.2 = b1.1
 /\ b1.1.length <= (1000000000 : Nat) /\ ∀ (b2 : Unit), True -> ifB (decide (b1.2 ∈ b1.1)) (((0 : Int) <= v3.2 /\ v3.2 < (↑(srtR v4.L).length : Int)) /\ ∃ (b3 : Pf × Pf), ((srtR v4.L).getD v3.2.toNat
 ((0 : Int), (0 : Int), false, (0 : Int), (0 : Int))).1 = b3.1.1 /\ ((srtR v4.L).getD v3.2.toNat ((0 : Int), (0 : Int), false, (0 : Int), (0 : Int))).2.1 = b3.1.2.1 /\ ((srtR v4.L).getD v3.2.toNat ((0
 : Int), (0 : Int), false, (0 : Int), (0 : Int))).2.2.1 = b3.1.2.2.1 /\ ((srtR v4.L).getD v3.2.toNat ((0 : Int), (0 : Int), false, (0 : Int), (0 : Int))).2.2.2.1 = b3.1.2.2.2 /\ (v1.2.2.getD v2.1.toNat
 ((0 : Int), (0 : Int), (0 : Int), false, (0 : Int), (0 : Int))).2.1 = b3.2.1 /\ (v1.2.2.getD v2.1.toNat ((0 : Int), (0 : Int), (0 : Int), false, (0 : Int), (0 : Int))).2.2.1 = b3.2.2.1 /\ (v1.2.2.getD
 v2.1.toNat ((0 : Int), (0 : Int), (0 : Int), false, (0 : Int), (0 : Int))).2.2.2.1 = b3.2.2.2.1 /\ (v1.2.2.getD v2.1.toNat ((0 : Int), (0 : Int), (0 : Int), false, (0 : Int), (0 : Int))).2.2.2.2.1 =
 b3.2.2.2.2 /\ (H_SpL13t_8 b3) /\ ∀ (b4 : Unit), True -> ifB (!!apartP b3.1 b3.2) (∃ (b5 : Unit), True /\ false = true /\ True) (H_SpL13t_10 v3 v6 v7)) (∃ (b7 : Unit), True /\ false = true /\ True)) (∃
 (b8 : Unit), True /\ false = true /\ True)
@[reducible] def H_SpL13t_2 (v1 : Int × Tb) (v2 : Int × Int × List Ac) (v3 : Int × Int) (v4 : Tb × Ac) (v5 : Int × Tb → Prop) (v6 : Int × Tb → Nat) (v7 : Tb) : Prop :=
 ((0 : Int) <= v1.1 /\ v1.1 < (↑v2.2.2.length : Int)) /\ ifB (decide ((v2.2.2.getD v1.1.toNat ((0 : Int), (0 : Int), (0 : Int), false, (0 : Int), (0 : Int))).1 = (4 : Int))) (ifB (!decide (v3.1 =
 (↑(v4.1.act v4.2).2.2.2.length : Int))) (∃ (b1 : Unit), True /\ false = true /\ True) (((-9223372036854775808 : Int) <= v1.1 + (1 : Int) /\ v1.1 + (1 : Int) <= (9223372036854775807 : Int)) /\ ∃ (b2 :
 Int × Tb), v5 b2 /\ v6 b2 < v6 v1 /\ v1.1 + (1 : Int) = b2.1 /\ absR tbP v7 = absR tbP b2.2 /\ True)) (((-9223372036854775808 : Int) <= v1.1 + (1 : Int) /\ v1.1 + (1 : Int) <= (9223372036854775807 :
 Int)) /\ ∃ (b3 : Int × Tb), v5 b3 /\ v6 b3 < v6 v1 /\ v1.1 + (1 : Int) = b3.1 /\ absR tbP v7 = absR tbP b3.2 /\ True)
@[reducible] def H_SpL13t_6 (v1 : Tb × Rt × Bool) : Prop :=
 (((0 : Int) <= (pA (rP v1.2.1)).1 /\ (pA (rP v1.2.1)).1 < (18446744073709551616 : Int)) /\ (0 : Int) <= (pA (rP v1.2.1)).2.1 /\ (pA (rP v1.2.1)).2.1 < (18446744073709551616 : Int)) /\ (v1.1.k +
 v1.1.L.length).le (6000 : Nat)
@[reducible] def H_SpL13t_3 (v1 : Tb × Ac) : Prop :=
 ∃ (b1 : Tb × Rt × Bool), v1.2.2.1 = b1.2.1.1 /\ v1.2.2.2.1 = b1.2.1.2.1 /\ v1.2.2.2.2.1 = b1.2.1.2.2.1 /\ v1.2.2.2.2.2.1 = b1.2.1.2.2.2.1 /\ v1.2.2.2.2.2.2 = b1.2.1.2.2.2.2 /\ decide (v1.2.1 = (1 :
 Int)) = b1.2.2 /\ absR tbP v1.1 = absR tbP b1.1 /\ (H_SpL13t_6 b1) /\ ∀ (b2 : Unit), True -> ∃ (b3 : Unit), True /\ (b1.1.install b1.2.1 b1.2.2).2.1 = (v1.1.act v1.2).2.1 /\ (b1.1.install b1.2.1
 b1.2.2).2.2.1.length = (v1.1.act v1.2).2.2.1.length /\ (b1.1.install b1.2.1 b1.2.2).2.2.2.length = (v1.1.act v1.2).2.2.2.length /\ absR tbP (b1.1.install b1.2.1 b1.2.2).1 = absR tbP (v1.1.act v1.2).1
 /\ (b1.1.install b1.2.1 b1.2.2).2.2.1 = (v1.1.act v1.2).2.2.1 /\ (b1.1.install b1.2.1 b1.2.2).2.2.2 = (v1.1.act v1.2).2.2.2 /\ True
@[reducible] def H_SpL13t_4 (v1 : Int × Int × List Ac) (v2 : Int × Tb) (v3 : Int × Int) (v4 : Tb) (v5 : Int × Int → Prop) (v6 : Int × Int → Nat) (v7 : Tb × Ac) : Prop :=
 ifB (decide ((v1.2.2.getD v2.1.toNat ((0 : Int), (0 : Int), (0 : Int), false, (0 : Int), (0 : Int))).1 = (3 : Int))) (((0 : Int) <= v3.2 /\ v3.2 < (↑(srtR v4.L).length : Int)) /\ ifB (decide (((srtR
 v4.L).getD v3.2.toNat ((0 : Int), (0 : Int), false, (0 : Int), (0 : Int))).1 = (v1.2.2.getD v2.1.toNat ((0 : Int), (0 : Int), (0 : Int), false, (0 : Int), (0 : Int))).2.1) && (decide (((srtR
 v4.L).getD v3.2.toNat ((0 : Int), (0 : Int), false, (0 : Int), (0 : Int))).2.1 = (v1.2.2.getD v2.1.toNat ((0 : Int), (0 : Int), (0 : Int), false, (0 : Int), (0 : Int))).2.2.1) && (decide (((srtR
 v4.L).getD v3.2.toNat ((0 : Int), (0 : Int), false, (0 : Int), (0 : Int))).2.2.1 = (v1.2.2.getD v2.1.toNat ((0 : Int), (0 : Int), (0 : Int), false, (0 : Int), (0 : Int))).2.2.2.1) && decide (((srtR
 v4.L).getD v3.2.toNat ((0 : Int), (0 : Int), false, (0 : Int), (0 : Int))).2.2.2.1 = (v1.2.2.getD v2.1.toNat ((0 : Int), (0 : Int), (0 : Int), false, (0 : Int), (0 : Int))).2.2.2.2.1)))) (H_SpL13t_10
 v3 v5 v6) (H_SpL13t_1 v1 v2 v3 v4 v7 v5 v6)) (H_SpL13t_1 v1 v2 v3 v4 v7 v5 v6)
@[reducible] def H_SpL13t_5 (v1 : Int × List Rt × List Rt) (v2 : Tb) (v3 : Int × List Rt × List Rt → Prop) (v4 : Int × List Rt × List Rt → Nat) : Prop :=
 ((0 : Int) <= v1.1 /\ v1.1 < (↑(srtR v2.L).length : Int)) /\ ((v1.2.2.length + [((srtR v2.L).getD v1.1.toNat ((0 : Int), (0 : Int), false, (0 : Int), (0 : Int)))].length) * (40 : Nat) <=
 (140737488355328 : Nat) /\ v1.2.2.length + [((srtR v2.L).getD v1.1.toNat ((0 : Int), (0 : Int), false, (0 : Int), (0 : Int)))].length <= (140737488355328 : Nat)) /\ ((-9223372036854775808 : Int) <=
 v1.1 + (1 : Int) /\ v1.1 + (1 : Int) <= (9223372036854775807 : Int)) /\ ∃ (b1 : Int × List Rt × List Rt), v3 b1 /\ v4 b1 < v4 v1 /\ v1.1 + (1 : Int) = b1.1 /\ v1.2.1.length = b1.2.1.length /\
 v1.2.2.length + [((srtR v2.L).getD v1.1.toNat ((0 : Int), (0 : Int), false, (0 : Int), (0 : Int)))].length = b1.2.2.length /\ v1.2.1 = b1.2.1 /\ v1.2.2 ++ [((srtR v2.L).getD v1.1.toNat ((0 : Int), (0
 : Int), false, (0 : Int), (0 : Int)))] = b1.2.2 /\ True
@[reducible] def H_SpL13t_7 (v1 : Int × List Pf) (v2 : Tb) (v3 : Int × List Pf → Prop) (v4 : Int × List Pf → Nat) : Prop :=
 ((0 : Int) <= v1.1 /\ v1.1 < (↑(List.map rP v2.L).length : Int)) /\ ((v1.2.length + [((List.map rP v2.L).getD v1.1.toNat ((0 : Int), (0 : Int), false, (0 : Int)))].length) * (32 : Nat) <=
 (140737488355328 : Nat) /\ v1.2.length + [((List.map rP v2.L).getD v1.1.toNat ((0 : Int), (0 : Int), false, (0 : Int)))].length <= (140737488355328 : Nat)) /\ ((-9223372036854775808 : Int) <= v1.1 +
 (1 : Int) /\ v1.1 + (1 : Int) <= (9223372036854775807 : Int)) /\ ∃ (b1 : Int × List Pf), v3 b1 /\ v4 b1 < v4 v1 /\ v1.1 + (1 : Int) = b1.1 /\ v1.2.length + [((List.map rP v2.L).getD v1.1.toNat ((0 :
 Int), (0 : Int), false, (0 : Int)))].length = b1.2.length /\ v1.2 ++ [((List.map rP v2.L).getD v1.1.toNat ((0 : Int), (0 : Int), false, (0 : Int)))] = b1.2 /\ True
@[reducible] def H_SpL13t_9 (v1 : Tb × Pf) : Prop :=
 (((0 : Int) <= (pA v1.2).1 /\ (pA v1.2).1 < (18446744073709551616 : Int)) /\ (0 : Int) <= (pA v1.2).2.1 /\ (pA v1.2).2.1 < (18446744073709551616 : Int)) /\ (v1.1.k + v1.1.L.length).le (6000 : Nat)
@[reducible] def H_SpL13t_11 (v1 : Tb × Ac) : Prop :=
 ((0 : Int) <= (pA (rP v1.2.2)).1 /\ (pA (rP v1.2.2)).1 < (18446744073709551616 : Int)) /\ (0 : Int) <= (pA (rP v1.2.2)).2.1 /\ (pA (rP v1.2.2)).2.1 < (18446744073709551616 : Int)
def T_prefs13  : Prop :=
 ∀ (x : List Pf × List Pf), x.1.length <= (1000000000 : Nat) /\ x.2.length <= (1000000000 : Nat) -> ifB (!decide ((↑x.1.length : Int) = (↑x.2.length : Int))) (∃ (y : Unit), True /\ false = decide (x.1
 = x.2) /\ True) (∃ (I : Int -> Prop), ∃ (μ : Int -> Nat), (∃ (x : Int), I x /\ (0 : Int) = x /\ True) /\ ∀ (x_1 : Int), I x_1 -> ifB (decide (x_1 < (↑x.1.length : Int))) (((0 : Int) <= x_1 /\ x_1 <
 (↑x.1.length : Int)) /\ ((0 : Int) <= x_1 /\ x_1 < (↑x.2.length : Int)) /\ ifB (!(decide ((x.1.getD x_1.toNat ((0 : Int), (0 : Int), false, (0 : Int))).1 = (x.2.getD x_1.toNat ((0 : Int), (0 : Int),
 false, (0 : Int))).1) && (decide ((x.1.getD x_1.toNat ((0 : Int), (0 : Int), false, (0 : Int))).2.1 = (x.2.getD x_1.toNat ((0 : Int), (0 : Int), false, (0 : Int))).2.1) && (decide ((x.1.getD x_1.toNat
 ((0 : Int), (0 : Int), false, (0 : Int))).2.2.1 = (x.2.getD x_1.toNat ((0 : Int), (0 : Int), false, (0 : Int))).2.2.1) && decide ((x.1.getD x_1.toNat ((0 : Int), (0 : Int), false, (0 : Int))).2.2.2 =
 (x.2.getD x_1.toNat ((0 : Int), (0 : Int), false, (0 : Int))).2.2.2))))) (∃ (y : Unit), True /\ false = decide (x.1 = x.2) /\ True) (((-9223372036854775808 : Int) <= x_1 + (1 : Int) /\ x_1 + (1 : Int)
 <= (9223372036854775807 : Int)) /\ ∃ (y : Int), I y /\ μ y < μ x_1 /\ x_1 + (1 : Int) = y /\ True)) (∃ (y : Unit), True /\ true = decide (x.1 = x.2) /\ True))
def T_has13  : Prop :=
 ∀ (x : List Rt × Rt), x.1.length <= (1000000000 : Nat) -> ∃ (I : Int -> Prop), ∃ (μ : Int -> Nat), (∃ (x : Int), I x /\ (0 : Int) = x /\ True) /\ ∀ (x_1 : Int), I x_1 -> ifB (decide (x_1 <
 (↑x.1.length : Int))) (((0 : Int) <= x_1 /\ x_1 < (↑x.1.length : Int)) /\ ifB (decide ((x.1.getD x_1.toNat ((0 : Int), (0 : Int), false, (0 : Int), (0 : Int))).1 = x.2.1) && (decide ((x.1.getD
 x_1.toNat ((0 : Int), (0 : Int), false, (0 : Int), (0 : Int))).2.1 = x.2.2.1) && (decide ((x.1.getD x_1.toNat ((0 : Int), (0 : Int), false, (0 : Int), (0 : Int))).2.2.1 = x.2.2.2.1) && (decide
 ((x.1.getD x_1.toNat ((0 : Int), (0 : Int), false, (0 : Int), (0 : Int))).2.2.2.1 = x.2.2.2.2.1) && decide ((x.1.getD x_1.toNat ((0 : Int), (0 : Int), false, (0 : Int), (0 : Int))).2.2.2.2 =
 x.2.2.2.2.2))))) (∃ (y : Unit), True /\ true = decide (x.2 ∈ x.1) /\ True) (((-9223372036854775808 : Int) <= x_1 + (1 : Int) /\ x_1 + (1 : Int) <= (9223372036854775807 : Int)) /\ ∃ (y : Int), I y /\ μ
 y < μ x_1 /\ x_1 + (1 : Int) = y /\ True)) (∃ (y : Unit), True /\ false = decide (x.2 ∈ x.1) /\ True)
def T_do13  : Prop :=
 ∀ (x : Tb × Ac), (H_SpL13t_11 x) /\ (x.1.k + x.1.L.length).le (6000 : Nat) -> ifB (decide (x.2.1 = (0 : Int))) (H_SpL13t_3 x) (ifB (decide (x.2.1 = (1 : Int))) (H_SpL13t_3 x) (ifB (decide (x.2.1 = (2
 : Int))) (∃ (x_1 : Tb × Ad), x.2.2.1 = x_1.2.1 /\ x.2.2.2.1 = x_1.2.2.1 /\ x.2.2.2.2.1 = x_1.2.2.2 /\ absR tbP x.1 = absR tbP x_1.1 /\ (((0 : Int) <= x_1.2.1 /\ x_1.2.1 < (18446744073709551616 : Int))
 /\ (0 : Int) <= x_1.2.2.1 /\ x_1.2.2.1 < (18446744073709551616 : Int)) /\ ∀ (y : Unit), True -> ∃ (y : Unit), True /\ (x_1.1.find x_1.2).isSome = (x.1.act x.2).2.1 /\ (0 : Nat) = (x.1.act
 x.2).2.2.1.length /\ (1 : Nat) = (x.1.act x.2).2.2.2.length /\ absR tbP (x_1.1.hit x_1.2) = absR tbP (x.1.act x.2).1 /\ [] = (x.1.act x.2).2.2.1 /\ [((x_1.1.find x_1.2).getD zRt)] = (x.1.act
 x.2).2.2.2 /\ True) (ifB (decide (x.2.1 = (3 : Int))) (∃ (x_1 : Tb × Pf), x.2.2.1 = x_1.2.1 /\ x.2.2.2.1 = x_1.2.2.1 /\ x.2.2.2.2.1 = x_1.2.2.2.1 /\ x.2.2.2.2.2.1 = x_1.2.2.2.2 /\ absR tbP x.1 = absR
 tbP x_1.1 /\ (H_SpL13t_9 x_1) /\ ∀ (y : Unit), True -> ∃ (y : Unit), True /\ (x_1.1.has x_1.2).isSome = (x.1.act x.2).2.1 /\ (0 : Nat) = (x.1.act x.2).2.2.1.length /\ (0 : Nat) = (x.1.act
 x.2).2.2.2.length /\ absR tbP (x_1.1.evict x_1.2) = absR tbP (x.1.act x.2).1 /\ [] = (x.1.act x.2).2.2.1 /\ [] = (x.1.act x.2).2.2.2 /\ True) (ifB (decide (x.2.1 = (4 : Int))) (∃ (x_1 : Tb × Pf),
 x.2.2.1 = x_1.2.1 /\ x.2.2.2.1 = x_1.2.2.1 /\ x.2.2.2.2.1 = x_1.2.2.2.1 /\ x.2.2.2.2.2.1 = x_1.2.2.2.2 /\ absR tbP x.1 = absR tbP x_1.1 /\ (H_SpL13t_9 x_1) /\ ∀ (y : Unit), True -> ∃ (y : Unit), True
 /\ false = (x.1.act x.2).2.1 /\ (0 : Nat) = (x.1.act x.2).2.2.1.length /\ (x_1.1.lost x_1.2).length = (x.1.act x.2).2.2.2.length /\ absR tbP (x_1.1.flush x_1.2) = absR tbP (x.1.act x.2).1 /\ [] =
 (x.1.act x.2).2.2.1 /\ x_1.1.lost x_1.2 = (x.1.act x.2).2.2.2 /\ True) (∃ (x_1 : Tb), absR tbP x.1 = absR tbP x_1 /\ True /\ ∀ (y : Unit), True -> ∃ (y : Unit), True /\ false = (x.1.act x.2).2.1 /\ (0
 : Nat) = (x.1.act x.2).2.2.1.length /\ (0 : Nat) = (x.1.act x.2).2.2.2.length /\ absR tbP x_1.tick = absR tbP (x.1.act x.2).1 /\ [] = (x.1.act x.2).2.2.1 /\ [] = (x.1.act x.2).2.2.2 /\ True)))))
def T_wake13  : Prop :=
 ∀ (x : Unit), True -> ∃ (x : Int × Int), (2 : Int) = x.1 /\ (0 : Int) = x.2 /\ True /\ ∀ (y : Unit), True -> ((-9223372036854775808 : Int) <= (10 : Int) /\ (10 : Int) <= (9223372036854775807 : Int))
 /\ ∃ (x_1 : List Int), (4 : Nat) = x_1.length /\ [(10 : Int), (0 : Int), (0 : Int), (0 : Int)] = x_1 /\ (∀ (x : Int), List.Mem x x_1 -> (0 : Int) <= x /\ x <= (255 : Int)) /\ ∀ (y : Unit), True -> ∃
 (x_2 : Ad × Int), (fromE x_1).1.1 = x_2.1.1 /\ (fromE x_1).1.2.1 = x_2.1.2.1 /\ (fromE x_1).1.2.2 = x_2.1.2.2 /\ (8 : Int) = x_2.2 /\ (((0 : Int) <= x_2.1.1 /\ x_2.1.1 < (18446744073709551616 : Int))
 /\ (0 : Int) <= x_2.1.2.1 /\ x_2.1.2.1 < (18446744073709551616 : Int)) /\ ∀ (y : Unit), True -> ∃ (x_3 : Tb × Rt × Bool), (ofPf x_2.1 x_2.2).1 = x_3.2.1.1 /\ (ofPf x_2.1 x_2.2).2.1 = x_3.2.1.2.1 /\
 (ofPf x_2.1 x_2.2).2.2.1 = x_3.2.1.2.2.1 /\ (ofPf x_2.1 x_2.2).2.2.2 = x_3.2.1.2.2.2.1 /\ (0 : Int) = x_3.2.1.2.2.2.2 /\ false = x_3.2.2 /\ absR tbP (Tb.new x.1 x.2) = absR tbP x_3.1 /\ (H_SpL13t_6
 x_3) /\ ∀ (y : Unit), True -> ((-9223372036854775808 : Int) <= (1 : Int) /\ (1 : Int) <= (9223372036854775807 : Int)) /\ ((-9223372036854775808 : Int) <= (11 : Int) /\ (11 : Int) <=
 (9223372036854775807 : Int)) /\ ∃ (x : List Int), (4 : Nat) = x.length /\ [(11 : Int), (0 : Int), (0 : Int), (0 : Int)] = x /\ (∀ (x_4 : Int), List.Mem x_4 x -> (0 : Int) <= x_4 /\ x_4 <= (255 : Int))
 /\ ∀ (y : Unit), True -> ∃ (x_4 : Ad × Int), (fromE x).1.1 = x_4.1.1 /\ (fromE x).1.2.1 = x_4.1.2.1 /\ (fromE x).1.2.2 = x_4.1.2.2 /\ (8 : Int) = x_4.2 /\ (((0 : Int) <= x_4.1.1 /\ x_4.1.1 <
 (18446744073709551616 : Int)) /\ (0 : Int) <= x_4.1.2.1 /\ x_4.1.2.1 < (18446744073709551616 : Int)) /\ ∀ (y : Unit), True -> ∃ (x : Tb × Rt × Bool), (ofPf x_4.1 x_4.2).1 = x.2.1.1 /\ (ofPf x_4.1
 x_4.2).2.1 = x.2.1.2.1 /\ (ofPf x_4.1 x_4.2).2.2.1 = x.2.1.2.2.1 /\ (ofPf x_4.1 x_4.2).2.2.2 = x.2.1.2.2.2.1 /\ (1 : Int) = x.2.1.2.2.2.2 /\ false = x.2.2 /\ absR tbP (x_3.1.install x_3.2.1 x_3.2.2).1
 = absR tbP x.1 /\ (H_SpL13t_6 x) /\ ∀ (y : Unit), True -> ((-9223372036854775808 : Int) <= (2 : Int) /\ (2 : Int) <= (9223372036854775807 : Int)) /\ ((-9223372036854775808 : Int) <= (12 : Int) /\ (12
 : Int) <= (9223372036854775807 : Int)) /\ ∃ (x_5 : List Int), (4 : Nat) = x_5.length /\ [(12 : Int), (0 : Int), (0 : Int), (0 : Int)] = x_5 /\ (∀ (x : Int), List.Mem x x_5 -> (0 : Int) <= x /\ x <=
 (255 : Int)) /\ ∀ (y : Unit), True -> ∃ (x_6 : Ad × Int), (fromE x_5).1.1 = x_6.1.1 /\ (fromE x_5).1.2.1 = x_6.1.2.1 /\ (fromE x_5).1.2.2 = x_6.1.2.2 /\ (8 : Int) = x_6.2 /\ (((0 : Int) <= x_6.1.1 /\
 x_6.1.1 < (18446744073709551616 : Int)) /\ (0 : Int) <= x_6.1.2.1 /\ x_6.1.2.1 < (18446744073709551616 : Int)) /\ ∀ (y : Unit), True -> ∃ (x_7 : Tb × Rt × Bool), (ofPf x_6.1 x_6.2).1 = x_7.2.1.1 /\
 (ofPf x_6.1 x_6.2).2.1 = x_7.2.1.2.1 /\ (ofPf x_6.1 x_6.2).2.2.1 = x_7.2.1.2.2.1 /\ (ofPf x_6.1 x_6.2).2.2.2 = x_7.2.1.2.2.2.1 /\ (2 : Int) = x_7.2.1.2.2.2.2 /\ false = x_7.2.2 /\ absR tbP
 (x.1.install x.2.1 x.2.2).1 = absR tbP x_7.1 /\ (H_SpL13t_6 x_7) /\ ∀ (y : Unit), True -> ((-9223372036854775808 : Int) <= (3 : Int) /\ (3 : Int) <= (9223372036854775807 : Int)) /\ ∃ (x : Tb), absR
 tbP (x_7.1.install x_7.2.1 x_7.2.2).1 = absR tbP x /\ True /\ ∀ (y : Unit), True -> ifB (x_7.1.install x_7.2.1 x_7.2.2).2.1 (ifB (decide ((↑(x_7.1.install x_7.2.1 x_7.2.2).2.2.2.length : Int) = (1 :
 Int))) (((0 : Int) <= (0 : Int) /\ (0 : Int) < (↑(x_7.1.install x_7.2.1 x_7.2.2).2.2.2.length : Int)) /\ ifB (decide (((x_7.1.install x_7.2.1 x_7.2.2).2.2.2.getD (0 : Nat) ((0 : Int), (0 : Int),
 false, (0 : Int), (0 : Int))).2.2.2.2 = (0 : Int))) (ifB (decide ((↑x.L.length : Int) = (2 : Int))) (ifB (decide (x.most = (2 : Int))) (∃ (x_8 : Tb), absR tbP x = absR tbP x_8 /\ True /\ ∀ (y : Unit),
 True -> ∃ (y : Unit), True /\ decide ((↑(srtR x_8.L).length : Int) = (2 : Int)) = true /\ True) (∃ (y : Unit), True /\ false = true /\ True)) (∃ (y : Unit), True /\ false = true /\ True)) (∃ (y :
 Unit), True /\ false = true /\ True)) (∃ (y : Unit), True /\ false = true /\ True)) (∃ (y : Unit), True /\ false = true /\ True)
def T_goes13  : Prop :=
 ∀ (x : Int × Int × List Ac), (∀ (o : Int × Rt), List.Mem o x.2.2 -> ((0 : Int) <= (pA (rP o.2)).1 /\ (pA (rP o.2)).1 < (18446744073709551616 : Int)) /\ (0 : Int) <= (pA (rP o.2)).2.1 /\ (pA (rP
 o.2)).2.1 < (18446744073709551616 : Int)) -> ∃ (x_1 : Unit), True /\ ∀ (y : Unit), True -> ifB (decide ((60 : Int) < (↑x.2.2.length : Int))) (∃ (y : Unit), True /\ true = true /\ True) (∃ (x_2 : Int ×
 Int), bits BinOp.and IntKind.i64 x.1 (15 : Int) = x_2.1 /\ x.2.1 = x_2.2 /\ True /\ ∀ (y : Unit), True -> ∃ (I : Int × Tb -> Prop), ∃ (μ : Int × Tb -> Nat), (∃ (x : Int × Tb), I x /\ (0 : Int) = x.1
 /\ absR tbP (Tb.new x_2.1 x_2.2) = absR tbP x.2 /\ True) /\ ∀ (x_3 : Int × Tb), I x_3 -> ifB (decide (x_3.1 < (↑x.2.2.length : Int))) (∃ (x_4 : Tb), absR tbP x_3.2 = absR tbP x_4 /\ True /\ ∀ (y :
 Unit), True -> ((0 : Int) <= x_3.1 /\ x_3.1 < (↑x.2.2.length : Int)) /\ ∃ (x_5 : Tb × Ac), (x.2.2.getD x_3.1.toNat ((0 : Int), (0 : Int), (0 : Int), false, (0 : Int), (0 : Int))).1 = x_5.2.1 /\
 (x.2.2.getD x_3.1.toNat ((0 : Int), (0 : Int), (0 : Int), false, (0 : Int), (0 : Int))).2.1 = x_5.2.2.1 /\ (x.2.2.getD x_3.1.toNat ((0 : Int), (0 : Int), (0 : Int), false, (0 : Int), (0 : Int))).2.2.1
 = x_5.2.2.2.1 /\ (x.2.2.getD x_3.1.toNat ((0 : Int), (0 : Int), (0 : Int), false, (0 : Int), (0 : Int))).2.2.2.1 = x_5.2.2.2.2.1 /\ (x.2.2.getD x_3.1.toNat ((0 : Int), (0 : Int), (0 : Int), false, (0
 : Int), (0 : Int))).2.2.2.2.1 = x_5.2.2.2.2.2.1 /\ (x.2.2.getD x_3.1.toNat ((0 : Int), (0 : Int), (0 : Int), false, (0 : Int), (0 : Int))).2.2.2.2.2 = x_5.2.2.2.2.2.2 /\ absR tbP x_4 = absR tbP x_5.1
 /\ ((H_SpL13t_11 x_5) /\ (x_5.1.k + x_5.1.L.length).le (6000 : Nat)) /\ ∀ (y : Unit), True -> ∃ (x_6 : Tb), absR tbP (x_5.1.act x_5.2).1 = absR tbP x_6 /\ True /\ ∀ (y : Unit), True -> ∃ (I_1 : Int ×
 Int -> Prop), ∃ (μ_1 : Int × Int -> Nat), (∃ (x : Int × Int), I_1 x /\ (0 : Int) = x.1 /\ (0 : Int) = x.2 /\ True) /\ ∀ (x_7 : Int × Int), I_1 x_7 -> ifB (decide (x_7.2 < (↑(srtR x_4.L).length :
 Int))) (((0 : Int) <= x_7.2 /\ x_7.2 < (↑(srtR x_4.L).length : Int)) /\ ∃ (x_8 : List Rt × Rt), (srtR x_6.L).length = x_8.1.length /\ ((srtR x_4.L).getD x_7.2.toNat ((0 : Int), (0 : Int), false, (0 :
 Int), (0 : Int))).1 = x_8.2.1 /\ ((srtR x_4.L).getD x_7.2.toNat ((0 : Int), (0 : Int), false, (0 : Int), (0 : Int))).2.1 = x_8.2.2.1 /\ ((srtR x_4.L).getD x_7.2.toNat ((0 : Int), (0 : Int), false, (0
 : Int), (0 : Int))).2.2.1 = x_8.2.2.2.1 /\ ((srtR x_4.L).getD x_7.2.toNat ((0 : Int), (0 : Int), false, (0 : Int), (0 : Int))).2.2.2.1 = x_8.2.2.2.2.1 /\ ((srtR x_4.L).getD x_7.2.toNat ((0 : Int), (0
 : Int), false, (0 : Int), (0 : Int))).2.2.2.2 = x_8.2.2.2.2.2 /\ srtR x_6.L = x_8.1 /\ x_8.1.length <= (1000000000 : Nat) /\ ∀ (y : Unit), True -> ifB (decide (x_8.2 ∈ x_8.1)) (((-9223372036854775808
 : Int) <= x_7.2 + (1 : Int) /\ x_7.2 + (1 : Int) <= (9223372036854775807 : Int)) /\ ∃ (y : Int × Int), I_1 y /\ μ_1 y < μ_1 x_7 /\ x_7.1 = y.1 /\ x_7.2 + (1 : Int) = y.2 /\ True)
 (((-9223372036854775808 : Int) <= x_7.1 + (1 : Int) /\ x_7.1 + (1 : Int) <= (9223372036854775807 : Int)) /\ ((0 : Int) <= x_3.1 /\ x_3.1 < (↑x.2.2.length : Int)) /\ ifB (decide ((x.2.2.getD
 x_3.1.toNat ((0 : Int), (0 : Int), (0 : Int), false, (0 : Int), (0 : Int))).1 = (0 : Int))) (((0 : Int) <= x_7.2 /\ x_7.2 < (↑(srtR x_4.L).length : Int)) /\ ∃ (x_9 : List Rt × Rt), (x_5.1.act
 x_5.2).2.2.1.length = x_9.1.length /\ ((srtR x_4.L).getD x_7.2.toNat ((0 : Int), (0 : Int), false, (0 : Int), (0 : Int))).1 = x_9.2.1 /\ ((srtR x_4.L).getD x_7.2.toNat ((0 : Int), (0 : Int), false, (0
 : Int), (0 : Int))).2.1 = x_9.2.2.1 /\ ((srtR x_4.L).getD x_7.2.toNat ((0 : Int), (0 : Int), false, (0 : Int), (0 : Int))).2.2.1 = x_9.2.2.2.1 /\ ((srtR x_4.L).getD x_7.2.toNat ((0 : Int), (0 : Int),
 false, (0 : Int), (0 : Int))).2.2.2.1 = x_9.2.2.2.2.1 /\ ((srtR x_4.L).getD x_7.2.toNat ((0 : Int), (0 : Int), false, (0 : Int), (0 : Int))).2.2.2.2 = x_9.2.2.2.2.2 /\ (x_5.1.act x_5.2).2.2.1 = x_9.1
 /\ x_9.1.length <= (1000000000 : Nat) /\ ∀ (y : Unit), True -> ifB (decide (x_9.2 ∈ x_9.1)) (H_SpL13t_10 x_7 I_1 μ_1) (((0 : Int) <= x_7.2 /\ x_7.2 < (↑(srtR x_4.L).length : Int)) /\ ∃ (x_10 : List Rt
 × Rt), (x_5.1.act x_5.2).2.2.2.length = x_10.1.length /\ ((srtR x_4.L).getD x_7.2.toNat ((0 : Int), (0 : Int), false, (0 : Int), (0 : Int))).1 = x_10.2.1 /\ ((srtR x_4.L).getD x_7.2.toNat ((0 : Int),
 (0 : Int), false, (0 : Int), (0 : Int))).2.1 = x_10.2.2.1 /\ ((srtR x_4.L).getD x_7.2.toNat ((0 : Int), (0 : Int), false, (0 : Int), (0 : Int))).2.2.1 = x_10.2.2.2.1 /\ ((srtR x_4.L).getD x_7.2.toNat
 ((0 : Int), (0 : Int), false, (0 : Int), (0 : Int))).2.2.2.1 = x_10.2.2.2.2.1 /\ ((srtR x_4.L).getD x_7.2.toNat ((0 : Int), (0 : Int), false, (0 : Int), (0 : Int))).2.2.2.2 = x_10.2.2.2.2.2 /\
 (x_5.1.act x_5.2).2.2.2 = x_10.1 /\ x_10.1.length <= (1000000000 : Nat) /\ ∀ (y : Unit), True -> ifB (decide (x_10.2 ∈ x_10.1)) (H_SpL13t_10 x_7 I_1 μ_1) (H_SpL13t_4 x x_3 x_7 x_4 I_1 μ_1 x_5)))
 (H_SpL13t_4 x x_3 x_7 x_4 I_1 μ_1 x_5))) (((0 : Int) <= x_3.1 /\ x_3.1 < (↑x.2.2.length : Int)) /\ ifB (decide ((x.2.2.getD x_3.1.toNat ((0 : Int), (0 : Int), (0 : Int), false, (0 : Int), (0 :
 Int))).1 = (0 : Int))) (ifB (decide ((1 : Int) < (↑(x_5.1.act x_5.2).2.2.2.length : Int))) (∃ (y : Unit), True /\ false = true /\ True) (((-9223372036854775808 : Int) <= (↑(x_5.1.act
 x_5.2).2.2.1.length : Int) + (↑(x_5.1.act x_5.2).2.2.2.length : Int) /\ (↑(x_5.1.act x_5.2).2.2.1.length : Int) + (↑(x_5.1.act x_5.2).2.2.2.length : Int) <= (9223372036854775807 : Int)) /\ ifB
 (!decide (x_7.1 = (↑(x_5.1.act x_5.2).2.2.1.length : Int) + (↑(x_5.1.act x_5.2).2.2.2.length : Int))) (∃ (y : Unit), True /\ false = true /\ True) (ifB (x_5.1.act x_5.2).2.1 (((0 : Int) <= x_3.1 /\
 x_3.1 < (↑x.2.2.length : Int)) /\ ∃ (x_8 : List Rt × Rt), (srtR x_6.L).length = x_8.1.length /\ (x.2.2.getD x_3.1.toNat ((0 : Int), (0 : Int), (0 : Int), false, (0 : Int), (0 : Int))).2.1 = x_8.2.1 /\
 (x.2.2.getD x_3.1.toNat ((0 : Int), (0 : Int), (0 : Int), false, (0 : Int), (0 : Int))).2.2.1 = x_8.2.2.1 /\ (x.2.2.getD x_3.1.toNat ((0 : Int), (0 : Int), (0 : Int), false, (0 : Int), (0 :
 Int))).2.2.2.1 = x_8.2.2.2.1 /\ (x.2.2.getD x_3.1.toNat ((0 : Int), (0 : Int), (0 : Int), false, (0 : Int), (0 : Int))).2.2.2.2.1 = x_8.2.2.2.2.1 /\ (x.2.2.getD x_3.1.toNat ((0 : Int), (0 : Int), (0 :
 Int), false, (0 : Int), (0 : Int))).2.2.2.2.2 = x_8.2.2.2.2.2 /\ srtR x_6.L = x_8.1 /\ x_8.1.length <= (1000000000 : Nat) /\ ∀ (y : Unit), True -> ifB (!decide (x_8.2 ∈ x_8.1)) (∃ (y : Unit), True /\
 false = true /\ True) (H_SpL13t_2 x_3 x x_7 x_5 I μ x_6)) (H_SpL13t_2 x_3 x x_7 x_5 I μ x_6)))) (H_SpL13t_2 x_3 x x_7 x_5 I μ x_6))) (∃ (y : Unit), True /\ true = true /\ True))
def T_flush13  : Prop :=
 ∀ (x : Int × Int × List Ac × Pf), (∀ (o : Int × Rt), List.Mem o x.2.2.1 -> ((0 : Int) <= (pA (rP o.2)).1 /\ (pA (rP o.2)).1 < (18446744073709551616 : Int)) /\ (0 : Int) <= (pA (rP o.2)).2.1 /\ (pA (rP
 o.2)).2.1 < (18446744073709551616 : Int)) /\ ((0 : Int) <= (pA x.2.2.2).1 /\ (pA x.2.2.2).1 < (18446744073709551616 : Int)) /\ (0 : Int) <= (pA x.2.2.2).2.1 /\ (pA x.2.2.2).2.1 < (18446744073709551616
 : Int) -> ∃ (x_1 : Unit), True /\ ∀ (y : Unit), True -> ifB (decide ((60 : Int) < (↑x.2.2.1.length : Int))) (∃ (y : Unit), True /\ true = true /\ True) (((-9223372036854775808 : Int) <= (1 : Int) +
 bits BinOp.and IntKind.i64 x.1 (15 : Int) /\ (1 : Int) + bits BinOp.and IntKind.i64 x.1 (15 : Int) <= (9223372036854775807 : Int)) /\ ∃ (x_2 : Int × Int), (1 : Int) + bits BinOp.and IntKind.i64 x.1
 (15 : Int) = x_2.1 /\ x.2.1 = x_2.2 /\ True /\ ∀ (y : Unit), True -> ∃ (I : Int × Tb -> Prop), ∃ (μ : Int × Tb -> Nat), (∃ (x : Int × Tb), I x /\ (0 : Int) = x.1 /\ absR tbP (Tb.new x_2.1 x_2.2) =
 absR tbP x.2 /\ True) /\ ∀ (x_3 : Int × Tb), I x_3 -> ifB (decide (x_3.1 < (↑x.2.2.1.length : Int))) (((0 : Int) <= x_3.1 /\ x_3.1 < (↑x.2.2.1.length : Int)) /\ ∃ (x_4 : Tb × Ac), (x.2.2.1.getD
 x_3.1.toNat ((0 : Int), (0 : Int), (0 : Int), false, (0 : Int), (0 : Int))).1 = x_4.2.1 /\ (x.2.2.1.getD x_3.1.toNat ((0 : Int), (0 : Int), (0 : Int), false, (0 : Int), (0 : Int))).2.1 = x_4.2.2.1 /\
 (x.2.2.1.getD x_3.1.toNat ((0 : Int), (0 : Int), (0 : Int), false, (0 : Int), (0 : Int))).2.2.1 = x_4.2.2.2.1 /\ (x.2.2.1.getD x_3.1.toNat ((0 : Int), (0 : Int), (0 : Int), false, (0 : Int), (0 :
 Int))).2.2.2.1 = x_4.2.2.2.2.1 /\ (x.2.2.1.getD x_3.1.toNat ((0 : Int), (0 : Int), (0 : Int), false, (0 : Int), (0 : Int))).2.2.2.2.1 = x_4.2.2.2.2.2.1 /\ (x.2.2.1.getD x_3.1.toNat ((0 : Int), (0 :
 Int), (0 : Int), false, (0 : Int), (0 : Int))).2.2.2.2.2 = x_4.2.2.2.2.2.2 /\ absR tbP x_3.2 = absR tbP x_4.1 /\ ((H_SpL13t_11 x_4) /\ (x_4.1.k + x_4.1.L.length).le (6000 : Nat)) /\ ∀ (y : Unit), True
 -> ((-9223372036854775808 : Int) <= x_3.1 + (1 : Int) /\ x_3.1 + (1 : Int) <= (9223372036854775807 : Int)) /\ ∃ (y : Int × Tb), I y /\ μ y < μ x_3 /\ x_3.1 + (1 : Int) = y.1 /\ absR tbP (x_4.1.act
 x_4.2).1 = absR tbP y.2 /\ True) (∃ (x_4 : Tb), absR tbP x_3.2 = absR tbP x_4 /\ True /\ ∀ (y : Unit), True -> ∃ (x_5 : Tb), absR tbP x_4 = absR tbP x_5 /\ True /\ ∀ (y : Unit), True -> ∃ (x_6 : Tb ×
 Pf), x.2.2.2.1 = x_6.2.1 /\ x.2.2.2.2.1 = x_6.2.2.1 /\ x.2.2.2.2.2.1 = x_6.2.2.2.1 /\ x.2.2.2.2.2.2 = x_6.2.2.2.2 /\ absR tbP x_5 = absR tbP x_6.1 /\ (H_SpL13t_9 x_6) /\ ∀ (y : Unit), True -> ∃ (I :
 Int × List Rt × List Rt -> Prop), ∃ (μ : Int × List Rt × List Rt -> Nat), (∃ (x : Int × List Rt × List Rt), I x /\ (0 : Int) = x.1 /\ (0 : Nat) = x.2.1.length /\ (0 : Nat) = x.2.2.length /\ [] = x.2.1
 /\ [] = x.2.2 /\ True) /\ ∀ (x_7 : Int × List Rt × List Rt), I x_7 -> ifB (decide (x_7.1 < (↑(srtR x_4.L).length : Int))) (∃ (x_8 : Int × Int × Bool × Int), x.2.2.2.1 = x_8.1 /\ x.2.2.2.2.1 = x_8.2.1
 /\ x.2.2.2.2.2.1 = x_8.2.2.1 /\ x.2.2.2.2.2.2 = x_8.2.2.2 /\ (((0 : Int) <= (pA x_8).1 /\ (pA x_8).1 < (18446744073709551616 : Int)) /\ (0 : Int) <= (pA x_8).2.1 /\ (pA x_8).2.1 <
 (18446744073709551616 : Int)) /\ ∀ (y : Unit), True -> ifB (saneP x_8) (((0 : Int) <= x_7.1 /\ x_7.1 < (↑(srtR x_4.L).length : Int)) /\ ∃ (x_9 : Pf × Pf), ((srtR x_4.L).getD x_7.1.toNat ((0 : Int), (0
 : Int), false, (0 : Int), (0 : Int))).1 = x_9.1.1 /\ ((srtR x_4.L).getD x_7.1.toNat ((0 : Int), (0 : Int), false, (0 : Int), (0 : Int))).2.1 = x_9.1.2.1 /\ ((srtR x_4.L).getD x_7.1.toNat ((0 : Int),
 (0 : Int), false, (0 : Int), (0 : Int))).2.2.1 = x_9.1.2.2.1 /\ ((srtR x_4.L).getD x_7.1.toNat ((0 : Int), (0 : Int), false, (0 : Int), (0 : Int))).2.2.2.1 = x_9.1.2.2.2 /\ x.2.2.2.1 = x_9.2.1 /\
 x.2.2.2.2.1 = x_9.2.2.1 /\ x.2.2.2.2.2.1 = x_9.2.2.2.1 /\ x.2.2.2.2.2.2 = x_9.2.2.2.2 /\ (H_SpL13t_8 x_9) /\ ∀ (y : Unit), True -> ifB (!apartP x_9.1 x_9.2) (((0 : Int) <= x_7.1 /\ x_7.1 < (↑(srtR
 x_4.L).length : Int)) /\ ((x_7.2.1.length + [((srtR x_4.L).getD x_7.1.toNat ((0 : Int), (0 : Int), false, (0 : Int), (0 : Int)))].length) * (40 : Nat) <= (140737488355328 : Nat) /\ x_7.2.1.length +
 [((srtR x_4.L).getD x_7.1.toNat ((0 : Int), (0 : Int), false, (0 : Int), (0 : Int)))].length <= (140737488355328 : Nat)) /\ ((-9223372036854775808 : Int) <= x_7.1 + (1 : Int) /\ x_7.1 + (1 : Int) <=
 (9223372036854775807 : Int)) /\ ∃ (y : Int × List Rt × List Rt), I y /\ μ y < μ x_7 /\ x_7.1 + (1 : Int) = y.1 /\ x_7.2.1.length + [((srtR x_4.L).getD x_7.1.toNat ((0 : Int), (0 : Int), false, (0 :
 Int), (0 : Int)))].length = y.2.1.length /\ x_7.2.2.length = y.2.2.length /\ x_7.2.1 ++ [((srtR x_4.L).getD x_7.1.toNat ((0 : Int), (0 : Int), false, (0 : Int), (0 : Int)))] = y.2.1 /\ x_7.2.2 = y.2.2
 /\ True) (H_SpL13t_5 x_7 x_4 I μ)) (H_SpL13t_5 x_7 x_4 I μ)) (∃ (I : Int × List Pf -> Prop), ∃ (μ : Int × List Pf -> Nat), (∃ (x : Int × List Pf), I x /\ (0 : Int) = x.1 /\ (0 : Nat) = x.2.length /\
 [] = x.2 /\ True) /\ ∀ (x_8 : Int × List Pf), I x_8 -> ifB (decide (x_8.1 < (↑(List.map rP x_5.L).length : Int))) (∃ (x_9 : Int × Int × Bool × Int), x.2.2.2.1 = x_9.1 /\ x.2.2.2.2.1 = x_9.2.1 /\
 x.2.2.2.2.2.1 = x_9.2.2.1 /\ x.2.2.2.2.2.2 = x_9.2.2.2 /\ (((0 : Int) <= (pA x_9).1 /\ (pA x_9).1 < (18446744073709551616 : Int)) /\ (0 : Int) <= (pA x_9).2.1 /\ (pA x_9).2.1 < (18446744073709551616 :
 Int)) /\ ∀ (y : Unit), True -> ifB (!saneP x_9) (H_SpL13t_7 x_8 x_5 I μ) (((0 : Int) <= x_8.1 /\ x_8.1 < (↑(List.map rP x_5.L).length : Int)) /\ ∃ (x_10 : Pf × Pf), ((List.map rP x_5.L).getD
 x_8.1.toNat ((0 : Int), (0 : Int), false, (0 : Int))).1 = x_10.1.1 /\ ((List.map rP x_5.L).getD x_8.1.toNat ((0 : Int), (0 : Int), false, (0 : Int))).2.1 = x_10.1.2.1 /\ ((List.map rP x_5.L).getD
 x_8.1.toNat ((0 : Int), (0 : Int), false, (0 : Int))).2.2.1 = x_10.1.2.2.1 /\ ((List.map rP x_5.L).getD x_8.1.toNat ((0 : Int), (0 : Int), false, (0 : Int))).2.2.2 = x_10.1.2.2.2 /\ x.2.2.2.1 =
 x_10.2.1 /\ x.2.2.2.2.1 = x_10.2.2.1 /\ x.2.2.2.2.2.1 = x_10.2.2.2.1 /\ x.2.2.2.2.2.2 = x_10.2.2.2.2 /\ (H_SpL13t_8 x_10) /\ ∀ (y : Unit), True -> ifB (apartP x_10.1 x_10.2) (H_SpL13t_7 x_8 x_5 I μ)
 (((-9223372036854775808 : Int) <= x_8.1 + (1 : Int) /\ x_8.1 + (1 : Int) <= (9223372036854775807 : Int)) /\ ∃ (y : Int × List Pf), I y /\ μ y < μ x_8 /\ x_8.1 + (1 : Int) = y.1 /\ x_8.2.length =
 y.2.length /\ x_8.2 = y.2 /\ True))) (∃ (x_9 : List Rt × List Rt), (x_6.1.lost x_6.2).length = x_9.1.length /\ x_7.2.1.length = x_9.2.length /\ x_6.1.lost x_6.2 = x_9.1 /\ x_7.2.1 = x_9.2 /\
 (x_9.1.length <= (1000000000 : Nat) /\ x_9.2.length <= (1000000000 : Nat)) /\ ∀ (y : Unit), True -> ifB (decide (x_9.1 = x_9.2)) (∃ (x_10 : Tb), absR tbP (x_6.1.flush x_6.2) = absR tbP x_10 /\ True /\
 ∀ (y : Unit), True -> ∃ (x_11 : List Rt × List Rt), (srtR x_10.L).length = x_11.1.length /\ x_7.2.2.length = x_11.2.length /\ srtR x_10.L = x_11.1 /\ x_7.2.2 = x_11.2 /\ (x_11.1.length <= (1000000000
 : Nat) /\ x_11.2.length <= (1000000000 : Nat)) /\ ∀ (y : Unit), True -> ifB (decide (x_11.1 = x_11.2)) (∃ (x_12 : Tb), absR tbP x_10 = absR tbP x_12 /\ True /\ ∀ (y : Unit), True -> ∃ (x_13 : List Pf
 × List Pf), (List.map rP x_12.L).length = x_13.1.length /\ x_8.2.length = x_13.2.length /\ List.map rP x_12.L = x_13.1 /\ x_8.2 = x_13.2 /\ (x_13.1.length <= (1000000000 : Nat) /\ x_13.2.length <=
 (1000000000 : Nat)) /\ ∀ (y : Unit), True -> ifB (decide (x_13.1 = x_13.2)) (∃ (x_14 : Tb × Pf), x.2.2.2.1 = x_14.2.1 /\ x.2.2.2.2.1 = x_14.2.2.1 /\ x.2.2.2.2.2.1 = x_14.2.2.2.1 /\ x.2.2.2.2.2.2 =
 x_14.2.2.2.2 /\ absR tbP x_12 = absR tbP x_14.1 /\ (H_SpL13t_9 x_14) /\ ∀ (y : Unit), True -> ∃ (y : Unit), True /\ decide ((↑(x_14.1.lost x_14.2).length : Int) = (0 : Int)) = true /\ True) (∃ (y :
 Unit), True /\ false = true /\ True)) (∃ (y : Unit), True /\ false = true /\ True)) (∃ (y : Unit), True /\ false = true /\ True)))))
theorem o_prefs13 : owes Tryz.prog (tab TL0) LqL13 0 32 Tryz.f32 PrefsS = T_prefs13 := by kernel_rfl
theorem o_has13 : owes Tryz.prog (tab TL0) LqL13 0 35 Tryz.f35 HasS = T_has13 := by kernel_rfl
theorem o_do13 : owes Tryz.prog (tab TL0) LqL13 1 23 Tryz.f23 DoL = T_do13 := by kernel_rfl
theorem o_wake13 : owes Tryz.prog (tab TL0) LqL13 0 20 Tryz.f20 Awake13Z = T_wake13 := by kernel_rfl
theorem o_goes13 : owes Tryz.prog (tab TL1) LqL13 0 5 Tryz.f5 GoesL = T_goes13 := by kernel_rfl
theorem o_flush13 : owes Tryz.prog (tab TL1) LqL13 0 6 Tryz.f6 FlushL = T_flush13 := by kernel_rfl
end Sp
end
section
set_option linter.all false
set_option maxRecDepth 10000
namespace Sp
theorem count_sub {l g : List Rt} (hl : l.Nodup) (hg : g.Nodup) (hs : ∀ x ∈ g, x ∈ l) {f : Rt → Bool} (hf : ∀ x ∈ l, f x = true ↔ x ∈ g) : (l.filter f).length = g.length := by
  have h1 : (l.filter f).length ≤ g.length := (show (l.filter f).Nodup from List.Pairwise.filter _ hl).length_le_of_subset fun x hx => (hf x (List.mem_filter.1 hx).1).1 (List.mem_filter.1 hx).2
  have h2 : g.length ≤ (l.filter f).length := hg.length_le_of_subset fun x hx => List.mem_filter.2 ⟨hs x hx, (hf x (hs x hx)).2 hx⟩
  omega
theorem okM.srt {m : Tb} (h : okM m) : Srt (srtR m.L) ∧ (∀ x, x ∈ srtR m.L ↔ x ∈ m.L) ∧ (srtR m.L).Nodup := by
  obtain ⟨h1, h2⟩ := srtR_of (fun x hx => good_sane (h.good x hx)) (dis_ne h.good h.dis)
  exact ⟨h1, h2, srt_nodup h1⟩
theorem okM.part {m : Tb} (h : okM m) (f : Rt → Bool) : (∀ x, x ∈ srtR (m.L.filter f) ↔ x ∈ m.L ∧ f x = true) ∧ (srtR (m.L.filter f)).Nodup := h.z.1.part f
theorem okM.filter_srt {m : Tb} (h : okM m) (f : Rt → Bool) : srtR (m.L.filter f) = (srtR m.L).filter f := by
  have hs : ∀ x ∈ m.L.filter f, saneP (rP x) = true := fun x hx => good_sane (h.good x (List.mem_filter.1 hx).1)
  obtain ⟨k1, k2⟩ := srtR_of hs (List.Pairwise.filter _ (dis_ne h.good h.dis))
  refine srt_same k1 (srt_filter h.srt.1 f) fun x => ?_
  rw [k2, List.mem_filter, List.mem_filter, h.srt.2.1]
structure InstP (m : Tb) (x : Rt) (soft : Bool) (r : Tb × Bool × List Rt × List Rt) : Prop where
  mem : ∀ y, y ∈ r.1.L ↔ (r.2.1 = true ∧ y = x) ∨ (y ∈ m.L ∧ y ∉ r.2.2.1 ++ r.2.2.2)
  nd : (r.2.2.1 ++ r.2.2.2).Nodup
  sub : ∀ y ∈ r.2.2.1 ++ r.2.2.2, y ∈ m.L
  new : r.2.1 = true → x ∉ m.L ∧ goodR x = true
  out : r.2.2.2.length ≤ 1
  none : r.2.1 = false → r = (m, false, [], [])
  soft : soft = true → r.2.2.1 = [] ∧ r.2.2.2 = []
  head : r.2.1 = true → ∃ t, r.1.L = x :: t ∧ ∀ y ∈ t, y ∈ m.L
  full : r.2.2.2 ≠ [] → r.2.2.1 = [] ∧ (m.L.length : Int) = m.most ∧ ∃ v, r.2.2.2 = [v] ∧ v = m.victim
theorem mem_put {m : Tb} {x y : Rt} : y ∈ (m.put x).L ↔ y = x ∨ y ∈ m.L := by
  show y ∈ x :: m.L.filter (fun y => !decide (y = x)) ↔ _
  rw [List.mem_cons, List.mem_filter]
  by_cases e : y = x
  · simp [e]
  · simp [e]
theorem okM.instP {m : Tb} (h : okM m) (x : Rt) (soft : Bool) : InstP m x soft (m.install x soft) := by
  rcases h.inst x soft with e | ⟨hg, hn, hs, hm1, hd, h2⟩
  · rw [e]
    exact ⟨fun y => by simp, List.nodup_nil, fun y hy => (by cases hy), fun h => (by cases h), Nat.zero_le _, fun _ => rfl, fun _ => ⟨rfl, rfl⟩, fun h => (by cases h), fun h => absurd rfl h⟩
  · have hxm : x ∉ m.L := fun k => by have := hn x k; rw [covers_self (good_sane hg)] at this; cases this
    obtain ⟨p1, p2⟩ := h.part fun y => coversP (rP x) (rP y)
    have p1 : ∀ y, y ∈ m.insd (rP x) ↔ y ∈ m.L ∧ coversP (rP x) (rP y) = true := p1
    have p2 : (m.insd (rP x)).Nodup := p2
    have hml := minus_len (dis_nodup h.good h.dis) p2 fun y hy => ((p1 y).1 hy).1
    have hlen := h.len
    rcases h2 with ⟨hc, hv, e⟩ | ⟨hc, e⟩
    · rw [e]
      generalize hvv : (m.minus (m.insd (rP x))).victim = v at *
      obtain ⟨v1, v2⟩ := mem_minus.1 hv
      refine ⟨fun y => ?_, ?_, ?_, fun _ => ⟨hxm, hg⟩, Nat.le_refl _, fun h => (by cases h), fun k => ?_, fun _ => ⟨_, rfl, fun y hy => ?_⟩, fun _ => ?_⟩
      · rw [mem_put, mem_drop, mem_minus]
        simp only [List.mem_append, List.mem_singleton, true_and, not_or]
        constructor
        · rintro (h | ⟨⟨h1, h2⟩, h3⟩)
          · exact .inl h
          · exact .inr ⟨h1, h2, h3⟩
        · rintro (h | ⟨h1, h2, h3⟩)
          · exact .inl h
          · exact .inr ⟨⟨h1, h2⟩, h3⟩
      · exact List.nodup_append.2 ⟨p2, List.pairwise_singleton _ _, fun a ha b hb e => v2 (by rw [List.mem_singleton.1 hb] at e; rw [← e]; exact ha)⟩
      · intro y hy
        rcases List.mem_append.1 hy with hy | hy
        · exact ((p1 y).1 hy).1
        · rw [List.mem_singleton.1 hy]; exact v1
      · obtain ⟨s1, s2⟩ := hs k
        have : (m.insd (rP x)).length = 0 := by rw [s1]; rfl
        omega
      · have := (List.mem_filter.1 hy).1
        exact (mem_minus.1 (mem_drop.1 this).1).1
      · have e0 : m.insd (rP x) = [] := List.eq_nil_of_length_eq_zero (by omega)
        refine ⟨e0, ?_, v, rfl, ?_⟩
        · omega
        · rw [← hvv, e0]
          rfl
    · rw [e]
      refine ⟨fun y => ?_, ?_, ?_, fun _ => ⟨hxm, hg⟩, Nat.zero_le _, fun h => (by cases h), fun k => ⟨(hs k).1, rfl⟩, fun _ => ⟨_, rfl, fun y hy => ?_⟩, fun h => absurd rfl h⟩
      · rw [mem_put, mem_minus]
        simp
      · rw [List.append_nil]; exact p2
      · intro y hy
        rw [List.append_nil] at hy
        exact ((p1 y).1 hy).1
      · exact (mem_minus.1 (List.mem_filter.1 hy).1).1
theorem lost_mem {m : Tb} (h : okM m) {p : Pf} {y : Rt} : y ∈ m.lost p ↔ y ∈ m.L ∧ (coversP p (rP y) || coversP (rP y) p) = true := (h.part fun r => coversP p (rP r) || coversP (rP r) p).1 y
theorem overlap_apart {p : Pf} {y : Rt} (hy : saneP (rP y) = true) : (saneP p && !apartP (rP y) p) = (coversP p (rP y) || coversP (rP y) p) := by
  unfold apartP
  rw [hy, Bool.true_and]
  cases hs : saneP p with
  | false =>
    have c1 : coversP p (rP y) = false := by
      cases h : coversP p (rP y) with
      | false => rfl
      | true => have := (covers_iff.1 h).1; rw [hs] at this; cases this
    have c2 : coversP (rP y) p = false := by
      cases h : coversP (rP y) p with
      | false => rfl
      | true => have := (covers_iff.1 h).2.1; rw [hs] at this; cases this
    rw [c1, c2]
    rfl
  | true => cases coversP p (rP y) <;> cases coversP (rP y) p <;> rfl
theorem gone_by {m : Tb} (h : okM m) (o : Ac) {y : Rt} (hy : y ∈ m.L) (hn : y ∉ (m.act o).1.L) : (o.1 = 0 ∧ (y ∈ (m.act o).2.2.1 ∨ y ∈ (m.act o).2.2.2)) ∨ (o.1 = 3 ∧ rP y = rP o.2) ∨ (o.1 = 4 ∧ y ∈ (m.act o).2.2.2 ∧ apartP (rP y) (rP o.2) = false) := by
  unfold Tb.act at hn ⊢
  by_cases c01 : o.1 = 0 ∨ o.1 = 1
  · rw [if_pos c01] at hn ⊢
    have k := h.instP o.2 (decide (o.1 = 1))
    have hx : y ∈ (m.install o.2 (decide (o.1 = 1))).2.2.1 ++ (m.install o.2 (decide (o.1 = 1))).2.2.2 := Classical.byContradiction fun hc => hn ((k.mem y).2 (.inr ⟨hy, hc⟩))
    rcases c01 with c | c
    · exact .inl ⟨c, List.mem_append.1 hx⟩
    · obtain ⟨s1, s2⟩ := k.soft (decide_eq_true c)
      rw [s1, s2] at hx
      cases hx
  rw [if_neg c01] at hn ⊢
  by_cases c2 : o.1 = 2
  · rw [if_pos c2] at hn
    exfalso
    apply hn
    show y ∈ (m.hit (pA (rP o.2))).L
    unfold Tb.hit
    split
    · rename_i x hx
      show y ∈ x :: m.L.filter (fun y => !decide (y = x))
      by_cases e : y = x
      · rw [e]; exact List.mem_cons_self
      · exact List.mem_cons_of_mem _ (List.mem_filter.2 ⟨hy, by simp [e]⟩)
    · exact hy
  rw [if_neg c2] at hn ⊢
  by_cases c3 : o.1 = 3
  · rw [if_pos c3] at hn ⊢
    refine .inr (.inl ⟨c3, ?_⟩)
    have hn : y ∉ (m.evict (rP o.2)).L := hn
    unfold Tb.evict at hn
    cases hh : m.has (rP o.2) with
    | none => rw [hh] at hn; exact absurd hy hn
    | some x =>
      rw [hh] at hn
      have hx : rP x = rP o.2 := by simpa using List.find?_some hh
      have : y = x := Classical.byContradiction fun hc => hn (mem_drop.2 ⟨hy, hc⟩)
      rw [this, hx]
  rw [if_neg c3] at hn ⊢
  by_cases c4 : o.1 = 4
  · rw [if_pos c4] at hn ⊢
    have hl : y ∈ m.lost (rP o.2) := Classical.byContradiction fun hc => hn (mem_minus.2 ⟨hy, hc⟩)
    refine .inr (.inr ⟨c4, hl, ?_⟩)
    have := ((lost_mem h).1 hl).2
    rw [← overlap_apart (good_sane (h.good y hy))] at this
    simp only [Bool.and_eq_true, Bool.not_eq_true'] at this
    exact this.2
  rw [if_neg c4] at hn
  exact absurd hy hn
def goneL (m m' : Tb) : List Rt := (srtR m.L).filter fun y => !decide (y ∈ srtR m'.L)
theorem gone_0 {m : Tb} (h : okM m) {o : Ac} (c : o.1 = 0) : (goneL m (m.act o).1).length = (m.act o).2.2.1.length + (m.act o).2.2.2.length ∧ (m.act o).2.2.2.length ≤ 1 ∧ ((m.act o).2.1 = true → o.2 ∈ (m.act o).1.L) := by
  have e : m.act o = m.install o.2 (decide (o.1 = 1)) := by unfold Tb.act; rw [if_pos (.inl c)]
  have h' := (h.act o).srt
  rw [e] at h' ⊢
  have k := h.instP o.2 (decide (o.1 = 1))
  refine ⟨?_, k.out, fun hr => (k.mem _).2 (.inl ⟨hr, rfl⟩)⟩
  rw [← List.length_append]
  refine count_sub h.srt.2.2 k.nd (fun x hx => (h.srt.2.1 x).2 (k.sub x hx)) fun x hx => ?_
  have hx := (h.srt.2.1 x).1 hx
  rw [Bool.not_eq_true', decide_eq_false_iff_not, h'.2.1, k.mem]
  constructor
  · intro hc
    exact Classical.byContradiction fun hn => hc (.inr ⟨hx, hn⟩)
  · intro hm hc
    rcases hc with ⟨h1, h2⟩ | ⟨_, h2⟩
    · exact (k.new h1).1 (h2 ▸ hx)
    · exact h2 hm
theorem gone_4 {m : Tb} (h : okM m) {o : Ac} (c : o.1 = 4) : (goneL m (m.act o).1).length = (m.act o).2.2.2.length := by
  have e : m.act o = (m.flush (rP o.2), false, [], m.lost (rP o.2)) := by unfold Tb.act; rw [if_neg (by omega), if_neg (by omega), if_neg (by omega), if_pos c]
  have h' := (h.act o).srt
  rw [e] at h' ⊢
  refine count_sub h.srt.2.2 (h.part _).2 (fun x hx => (h.srt.2.1 x).2 ((lost_mem h).1 hx).1) fun x hx => ?_
  have hx := (h.srt.2.1 x).1 hx
  rw [Bool.not_eq_true', decide_eq_false_iff_not, h'.2.1]
  show ¬ x ∈ (m.minus (m.lost (rP o.2))).L ↔ _
  rw [mem_minus]
  constructor
  · intro hc
    exact Classical.byContradiction fun hn => hc ⟨hx, hn⟩
  · intro hm hc
    exact hc.2 hm
theorem minus_L (m : Tb) : ∀ l : List Rt, (m.minus l).L = m.L.filter fun y => !decide (y ∈ l) := by
  intro l
  induction l generalizing m with
  | nil => exact (List.filter_eq_self.2 fun _ _ => by simp).symm
  | cons x l ih =>
    show ((m.drop x).minus l).L = _
    rw [ih]
    show (m.L.filter fun y => !decide (y = x)).filter _ = _
    rw [List.filter_filter]
    refine List.filter_congr fun y _ => ?_
    by_cases e : y = x <;> by_cases e2 : y ∈ l <;> simp [e, e2]
theorem flush_L {m : Tb} (h : okM m) (p : Pf) : (m.flush p).L = m.L.filter fun r => !(coversP p (rP r) || coversP (rP r) p) := by
  show (m.minus (m.lost p)).L = _
  rw [minus_L]
  refine List.filter_congr fun y hy => ?_
  congr 1
  rw [Bool.eq_iff_iff, decide_eq_true_eq, lost_mem h]
  exact ⟨fun k => k.2, fun k => ⟨hy, k⟩⟩
theorem flush_twice {m : Tb} (h : okM m) (p : Pf) : (m.flush p).lost p = [] := by
  cases hl : (m.flush p).lost p with
  | nil => rfl
  | cons a t =>
    have ha : a ∈ (m.flush p).lost p := by rw [hl]; exact List.mem_cons_self
    obtain ⟨a1, a2⟩ := (lost_mem (h.flush p)).1 ha
    rw [flush_L h, List.mem_filter] at a1
    rw [a2] at a1
    exact absurd a1.2 (by decide)
theorem isVK_const : ∀ l : List En, isVK key0 l = l
  | [] => rfl
  | x :: l => by
    unfold isVK
    rw [isVK_const l]
    cases l with
    | nil => rfl
    | cons y l => unfold insK; rw [if_pos (show key0 x ≤ key0 y from Int.le_refl _)]
theorem victim_lru {m : Tb} (hp : m.pol = 0) (hl : m.L.length ≠ 0) : m.victim = m.L.getD (m.L.length - 1) zRt := by
  unfold Tb.victim
  congr 1
  rw [hp]
  have he : m.ents.length = m.L.length := by unfold Tb.ents; rw [List.length_map, List.length_range]
  have e : (chooseK 0 m.ents).1 = ((m.L.length - 1 : Nat) : Int) := by
    rw [chooseK_eq 0 (by omega)]
    show ((rankK 0 m.ents).getD 0 (0, 0)).1 = _
    have hr : rankK 0 m.ents = m.ents.reverse := by unfold rankK keyOf; rw [if_neg (by decide)]; exact isVK_const _
    rw [hr, List.getD_eq_getElem?_getD, List.getElem?_reverse (by omega), he]
    unfold Tb.ents
    rw [List.getElem?_map, List.getElem?_range (by omega)]
    rfl
  rw [e]
  rfl
end Sp
end
