import Derived.ProofKit
import Derived.Test.YthnhbnakpmkppaaGreatMgTableGoes6
section
set_option linter.all false
set_option maxRecDepth 100000
namespace Sp
open Go Go.Proofs Sx
@[reducible] def H_SpWt_1 (v1 : List Int) : Prop :=
 ∃ (b1 : Int × Int × Int -> Prop), ∃ (b2 : Int × Int × Int -> Nat), (∃ (b3 : Int × Int × Int), b1 b3 /\ (0 : Int) = b3.1 /\ (0 : Int) = b3.2.1 /\ (0 : Int) = b3.2.2 /\ True) /\ ∀ (b4 : Int × Int ×
 Int), b1 b4 -> ifB (decide (b4.1 < (↑v1.length : Int))) (((0 : Int) <= b4.1 /\ b4.1 < (↑v1.length : Int)) /\ ((-9223372036854775808 : Int) <= b4.1 * (8 : Int) /\ b4.1 * (8 : Int) <=
 (9223372036854775807 : Int)) /\ ((0 : Int) <= b4.1 * (8 : Int) /\ (0 : Int) < (64 : Int)) /\ ifB (decide (b4.1 * (8 : Int) / (64 : Int) = (0 : Int))) (((0 : Int) <= b4.1 * (8 : Int) /\ (0 : Int) < (64
 : Int)) /\ ((-9223372036854775808 : Int) <= (56 : Int) - b4.1 * (8 : Int) % (64 : Int) /\ (56 : Int) - b4.1 * (8 : Int) % (64 : Int) <= (9223372036854775807 : Int)) /\ (0 : Int) <= ((56 : Int) - b4.1
 * (8 : Int) % (64 : Int)) % (18446744073709551616 : Int) /\ ifB (decide (b4.1 * (8 : Int) / (64 : Int) = (0 : Int))) (((-9223372036854775808 : Int) <= b4.1 + (1 : Int) /\ b4.1 + (1 : Int) <=
 (9223372036854775807 : Int)) /\ ∃ (b5 : Int × Int × Int), b1 b5 /\ b2 b5 < b2 b4 /\ b4.1 + (1 : Int) = b5.1 /\ bits BinOp.or IntKind.u64 b4.2.1 (v1.getD b4.1.toNat (0 : Int) * (2 : Int) ^ min (((56 :
 Int) - b4.1 * (8 : Int) % (64 : Int)) % (18446744073709551616 : Int)).toNat (64 : Nat) % (18446744073709551616 : Int)) = b5.2.1 /\ b4.2.2 = b5.2.2 /\ True) (ifB (decide (b4.1 * (8 : Int) / (64 : Int)
 = (1 : Int))) (((-9223372036854775808 : Int) <= b4.1 + (1 : Int) /\ b4.1 + (1 : Int) <= (9223372036854775807 : Int)) /\ ∃ (b6 : Int × Int × Int), b1 b6 /\ b2 b6 < b2 b4 /\ b4.1 + (1 : Int) = b6.1 /\
 b4.2.1 = b6.2.1 /\ bits BinOp.or IntKind.u64 b4.2.1 (v1.getD b4.1.toNat (0 : Int) * (2 : Int) ^ min (((56 : Int) - b4.1 * (8 : Int) % (64 : Int)) % (18446744073709551616 : Int)).toNat (64 : Nat) %
 (18446744073709551616 : Int)) = b6.2.2 /\ True) False)) (ifB (decide (b4.1 * (8 : Int) / (64 : Int) = (1 : Int))) (((0 : Int) <= b4.1 * (8 : Int) /\ (0 : Int) < (64 : Int)) /\ ((-9223372036854775808 :
 Int) <= (56 : Int) - b4.1 * (8 : Int) % (64 : Int) /\ (56 : Int) - b4.1 * (8 : Int) % (64 : Int) <= (9223372036854775807 : Int)) /\ (0 : Int) <= ((56 : Int) - b4.1 * (8 : Int) % (64 : Int)) %
 (18446744073709551616 : Int) /\ ifB (decide (b4.1 * (8 : Int) / (64 : Int) = (0 : Int))) (((-9223372036854775808 : Int) <= b4.1 + (1 : Int) /\ b4.1 + (1 : Int) <= (9223372036854775807 : Int)) /\ ∃ (b7
 : Int × Int × Int), b1 b7 /\ b2 b7 < b2 b4 /\ b4.1 + (1 : Int) = b7.1 /\ bits BinOp.or IntKind.u64 b4.2.2 (v1.getD b4.1.toNat (0 : Int) * (2 : Int) ^ min (((56 : Int) - b4.1 * (8 : Int) % (64 : Int))
 % (18446744073709551616 : Int)).toNat (64 : Nat) % (18446744073709551616 : Int)) = b7.2.1 /\ b4.2.2 = b7.2.2 /\ True) (ifB (decide (b4.1 * (8 : Int) / (64 : Int) = (1 : Int))) (((-9223372036854775808
 : Int) <= b4.1 + (1 : Int) /\ b4.1 + (1 : Int) <= (9223372036854775807 : Int)) /\ ∃ (b8 : Int × Int × Int), b1 b8 /\ b2 b8 < b2 b4 /\ b4.1 + (1 : Int) = b8.1 /\ b4.2.1 = b8.2.1 /\ bits BinOp.or
 IntKind.u64 b4.2.2 (v1.getD b4.1.toNat (0 : Int) * (2 : Int) ^ min (((56 : Int) - b4.1 * (8 : Int) % (64 : Int)) % (18446744073709551616 : Int)).toNat (64 : Nat) % (18446744073709551616 : Int)) =
 b8.2.2 /\ True) False)) False)) (∃ (b9 : Unit), True /\ b4.2.1 = (fromE v1).1.1 /\ b4.2.2 = (fromE v1).1.2.1 /\ decide ((↑v1.length : Int) = (16 : Int)) = (fromE v1).1.2.2 /\ (0 : Int) = (fromE v1).2
 /\ True)
def T_bytes  : Prop :=
 ∀ (x : Int × Int × Bool), ((0 : Int) <= x.1 /\ x.1 < (18446744073709551616 : Int)) /\ (0 : Int) <= x.2.1 /\ x.2.1 < (18446744073709551616 : Int) -> ∃ (x_1 : Int × Int × Bool), x.1 = x_1.1 /\ x.2.1 =
 x_1.2.1 /\ x.2.2 = x_1.2.2 /\ (((0 : Int) <= x_1.1 /\ x_1.1 < (18446744073709551616 : Int)) /\ (0 : Int) <= x_1.2.1 /\ x_1.2.1 < (18446744073709551616 : Int)) /\ ∀ (y : Unit), True -> ∃ (x_2 : Bool),
 x.2.2 = x_2 /\ True /\ ∀ (y : Unit), True -> ((0 : Int) <= (↑(wd x_2) : Int) /\ (0 : Int) < (8 : Int)) /\ ((0 : Int) <= (↑(wd x_2) : Int) / (8 : Int) /\ (↑(wd x_2) : Int) / (8 : Int) <= (↑(wd x_2) :
 Int) / (8 : Int) /\ (↑(wd x_2) : Int) / (8 : Int) <= (140737488355328 : Int) /\ (↑(wd x_2) : Int) / (8 : Int) * (1 : Int) <= (140737488355328 : Int)) /\ ∃ (I : Int × List Int -> Prop), ∃ (μ : Int ×
 List Int -> Nat), (∃ (x : Int × List Int), I x /\ (0 : Int) = x.1 /\ List.replicate ((↑(wd x_2) : Int) / (8 : Int)).toNat (0 : Int) = x.2 /\ True) /\ ∀ (x_3 : Int × List Int), I x_3 -> ifB (decide
 (x_3.1 < (↑((↑(wd x_2) : Int) / (8 : Int)).toNat : Int))) (((-9223372036854775808 : Int) <= x_3.1 * (8 : Int) /\ x_3.1 * (8 : Int) <= (9223372036854775807 : Int)) /\ ((0 : Int) <= x_3.1 * (8 : Int) /\
 (0 : Int) < (64 : Int)) /\ ifB (decide (x_3.1 * (8 : Int) / (64 : Int) = (0 : Int))) (((0 : Int) <= x_3.1 * (8 : Int) /\ (0 : Int) < (64 : Int)) /\ ((-9223372036854775808 : Int) <= (56 : Int) - x_3.1
 * (8 : Int) % (64 : Int) /\ (56 : Int) - x_3.1 * (8 : Int) % (64 : Int) <= (9223372036854775807 : Int)) /\ (0 : Int) <= ((56 : Int) - x_3.1 * (8 : Int) % (64 : Int)) % (18446744073709551616 : Int) /\
 ((0 : Int) <= x_3.1 /\ x_3.1 < (↑((↑(wd x_2) : Int) / (8 : Int)).toNat : Int)) /\ ((-9223372036854775808 : Int) <= x_3.1 + (1 : Int) /\ x_3.1 + (1 : Int) <= (9223372036854775807 : Int)) /\ ∃ (y : Int
 × List Int), I y /\ μ y < μ x_3 /\ x_3.1 + (1 : Int) = y.1 /\ x_3.2.set x_3.1.toNat ((canA x_1).1 / (2 : Int) ^ min (((56 : Int) - x_3.1 * (8 : Int) % (64 : Int)) % (18446744073709551616 : Int)).toNat
 (64 : Nat) % (256 : Int)) = y.2 /\ True) (ifB (decide (x_3.1 * (8 : Int) / (64 : Int) = (1 : Int))) (((0 : Int) <= x_3.1 * (8 : Int) /\ (0 : Int) < (64 : Int)) /\ ((-9223372036854775808 : Int) <= (56
 : Int) - x_3.1 * (8 : Int) % (64 : Int) /\ (56 : Int) - x_3.1 * (8 : Int) % (64 : Int) <= (9223372036854775807 : Int)) /\ (0 : Int) <= ((56 : Int) - x_3.1 * (8 : Int) % (64 : Int)) %
 (18446744073709551616 : Int) /\ ((0 : Int) <= x_3.1 /\ x_3.1 < (↑((↑(wd x_2) : Int) / (8 : Int)).toNat : Int)) /\ ((-9223372036854775808 : Int) <= x_3.1 + (1 : Int) /\ x_3.1 + (1 : Int) <=
 (9223372036854775807 : Int)) /\ ∃ (y : Int × List Int), I y /\ μ y < μ x_3 /\ x_3.1 + (1 : Int) = y.1 /\ x_3.2.set x_3.1.toNat ((canA x_1).2.1 / (2 : Int) ^ min (((56 : Int) - x_3.1 * (8 : Int) % (64
 : Int)) % (18446744073709551616 : Int)).toNat (64 : Nat) % (256 : Int)) = y.2 /\ True) False)) (∃ (y : Unit), True /\ ((↑(wd x_2) : Int) / (8 : Int)).toNat = (bytesA x).length /\ x_3.2 = bytesA x /\
 True)
def T_from  : Prop :=
 ∀ (x : List Int), (∀ (x_1 : Int), List.Mem x_1 x -> (0 : Int) <= x_1 /\ x_1 <= (255 : Int)) -> ifB (!decide ((↑x.length : Int) = (16 : Int))) (ifB (!decide ((↑x.length : Int) = (4 : Int))) (∃ (y :
 Unit), True /\ (0 : Int) = (fromE x).1.1 /\ (0 : Int) = (fromE x).1.2.1 /\ false = (fromE x).1.2.2 /\ (4 : Int) = (fromE x).2 /\ True) (H_SpWt_1 x)) (H_SpWt_1 x)
def T_clone  : Prop :=
 ∀ (x : List Int), x.length <= most -> (x.length = (0 : Nat) -> ∃ (y : Unit), True /\ (0 : Nat) = x.length /\ [] = x /\ True) /\ (((0 : Nat) + x.length) * (1 : Nat) <= (140737488355328 : Nat) /\ (0 :
 Nat) + x.length <= (140737488355328 : Nat)) /\ ∃ (y : Unit), True /\ (0 : Nat) + x.length = x.length /\ [] ++ x = x /\ True
def T_put  : Prop :=
 ∀ (x : List Int × Pf), x.1.length <= most /\ ((0 : Int) <= (pA x.2).1 /\ (pA x.2).1 < (18446744073709551616 : Int)) /\ (0 : Int) <= (pA x.2).2.1 /\ (pA x.2).2.1 < (18446744073709551616 : Int) -> ∃
 (x_1 : List Int), x.1.length = x_1.length /\ x.1 = x_1 /\ x_1.length <= most /\ ∀ (y : Unit), True -> ∃ (x_2 : Int × Int × Bool × Int), x.2.1 = x_2.1 /\ x.2.2.1 = x_2.2.1 /\ x.2.2.2.1 = x_2.2.2.1 /\
 x.2.2.2.2 = x_2.2.2.2 /\ (((0 : Int) <= (pA x_2).1 /\ (pA x_2).1 < (18446744073709551616 : Int)) /\ (0 : Int) <= (pA x_2).2.1 /\ (pA x_2).2.1 < (18446744073709551616 : Int)) /\ ∀ (y : Unit), True ->
 ifB (!saneP x_2) (∃ (y : Unit), True /\ x_1.length = (x.1 ++ putP x.2).length /\ x_1 = x.1 ++ putP x.2 /\ True) (ifB x.2.2.2.1 (((x_1.length + [(6 : Int), x.2.2.2.2 % (256 : Int)].length) * (1 : Nat)
 <= (140737488355328 : Nat) /\ x_1.length + [(6 : Int), x.2.2.2.2 % (256 : Int)].length <= (140737488355328 : Nat)) /\ ∃ (x_3 : Int × Int × Bool), x.2.1 = x_3.1 /\ x.2.2.1 = x_3.2.1 /\ x.2.2.2.1 =
 x_3.2.2 /\ (((0 : Int) <= x_3.1 /\ x_3.1 < (18446744073709551616 : Int)) /\ (0 : Int) <= x_3.2.1 /\ x_3.2.1 < (18446744073709551616 : Int)) /\ ∀ (y : Unit), True -> ((-9223372036854775808 : Int) <=
 x.2.2.2.2 + (8 : Int) /\ x.2.2.2.2 + (8 : Int) <= (9223372036854775807 : Int)) /\ ((-9223372036854775808 : Int) <= x.2.2.2.2 + (8 : Int) - (1 : Int) /\ x.2.2.2.2 + (8 : Int) - (1 : Int) <=
 (9223372036854775807 : Int)) /\ ((0 : Int) <= x.2.2.2.2 + (8 : Int) - (1 : Int) /\ (0 : Int) < (8 : Int)) /\ ((0 : Int) <= (x.2.2.2.2 + (8 : Int) - (1 : Int)) / (8 : Int) /\ (x.2.2.2.2 + (8 : Int) -
 (1 : Int)) / (8 : Int) <= (↑(bytesA x_3).length : Int)) /\ ((x_1.length + [(6 : Int), x.2.2.2.2 % (256 : Int)].length + (List.drop (0 : Nat) (List.take ((x.2.2.2.2 + (8 : Int) - (1 : Int)) / (8 :
 Int)).toNat (bytesA x_3))).length) * (1 : Nat) <= (140737488355328 : Nat) /\ x_1.length + [(6 : Int), x.2.2.2.2 % (256 : Int)].length + (List.drop (0 : Nat) (List.take ((x.2.2.2.2 + (8 : Int) - (1 :
 Int)) / (8 : Int)).toNat (bytesA x_3))).length <= (140737488355328 : Nat)) /\ ∃ (y : Unit), True /\ x_1.length + [(6 : Int), x.2.2.2.2 % (256 : Int)].length + (List.drop (0 : Nat) (List.take
 ((x.2.2.2.2 + (8 : Int) - (1 : Int)) / (8 : Int)).toNat (bytesA x_3))).length = (x.1 ++ putP x.2).length /\ x_1 ++ [(6 : Int), x.2.2.2.2 % (256 : Int)] ++ List.drop (0 : Nat) (List.take ((x.2.2.2.2 +
 (8 : Int) - (1 : Int)) / (8 : Int)).toNat (bytesA x_3)) = x.1 ++ putP x.2 /\ True) (((x_1.length + [(4 : Int), x.2.2.2.2 % (256 : Int)].length) * (1 : Nat) <= (140737488355328 : Nat) /\ x_1.length +
 [(4 : Int), x.2.2.2.2 % (256 : Int)].length <= (140737488355328 : Nat)) /\ ∃ (x_3 : Int × Int × Bool), x.2.1 = x_3.1 /\ x.2.2.1 = x_3.2.1 /\ x.2.2.2.1 = x_3.2.2 /\ (((0 : Int) <= x_3.1 /\ x_3.1 <
 (18446744073709551616 : Int)) /\ (0 : Int) <= x_3.2.1 /\ x_3.2.1 < (18446744073709551616 : Int)) /\ ∀ (y : Unit), True -> ((-9223372036854775808 : Int) <= x.2.2.2.2 + (8 : Int) /\ x.2.2.2.2 + (8 :
 Int) <= (9223372036854775807 : Int)) /\ ((-9223372036854775808 : Int) <= x.2.2.2.2 + (8 : Int) - (1 : Int) /\ x.2.2.2.2 + (8 : Int) - (1 : Int) <= (9223372036854775807 : Int)) /\ ((0 : Int) <=
 x.2.2.2.2 + (8 : Int) - (1 : Int) /\ (0 : Int) < (8 : Int)) /\ ((0 : Int) <= (x.2.2.2.2 + (8 : Int) - (1 : Int)) / (8 : Int) /\ (x.2.2.2.2 + (8 : Int) - (1 : Int)) / (8 : Int) <= (↑(bytesA x_3).length
 : Int)) /\ ((x_1.length + [(4 : Int), x.2.2.2.2 % (256 : Int)].length + (List.drop (0 : Nat) (List.take ((x.2.2.2.2 + (8 : Int) - (1 : Int)) / (8 : Int)).toNat (bytesA x_3))).length) * (1 : Nat) <=
 (140737488355328 : Nat) /\ x_1.length + [(4 : Int), x.2.2.2.2 % (256 : Int)].length + (List.drop (0 : Nat) (List.take ((x.2.2.2.2 + (8 : Int) - (1 : Int)) / (8 : Int)).toNat (bytesA x_3))).length <=
 (140737488355328 : Nat)) /\ ∃ (y : Unit), True /\ x_1.length + [(4 : Int), x.2.2.2.2 % (256 : Int)].length + (List.drop (0 : Nat) (List.take ((x.2.2.2.2 + (8 : Int) - (1 : Int)) / (8 : Int)).toNat
 (bytesA x_3))).length = (x.1 ++ putP x.2).length /\ x_1 ++ [(4 : Int), x.2.2.2.2 % (256 : Int)] ++ List.drop (0 : Nat) (List.take ((x.2.2.2.2 + (8 : Int) - (1 : Int)) / (8 : Int)).toNat (bytesA x_3))
 = x.1 ++ putP x.2 /\ True))
def T_good  : Prop :=
 ∀ (x : Int × Int × Bool × Int × Int), ((0 : Int) <= (pA (rP x)).1 /\ (pA (rP x)).1 < (18446744073709551616 : Int)) /\ (0 : Int) <= (pA (rP x)).2.1 /\ (pA (rP x)).2.1 < (18446744073709551616 : Int) ->
 ifB (decide ((0 : Int) <= x.2.2.2.2)) (ifB (decide (x.2.2.2.2 <= (65535 : Int))) (∃ (x_1 : Int × Int × Bool × Int), x.1 = x_1.1 /\ x.2.1 = x_1.2.1 /\ x.2.2.1 = x_1.2.2.1 /\ x.2.2.2.1 = x_1.2.2.2 /\
 (((0 : Int) <= (pA x_1).1 /\ (pA x_1).1 < (18446744073709551616 : Int)) /\ (0 : Int) <= (pA x_1).2.1 /\ (pA x_1).2.1 < (18446744073709551616 : Int)) /\ ∀ (y : Unit), True -> ∃ (y : Unit), True /\
 saneP x_1 = goodR x /\ True) (∃ (y : Unit), True /\ false = goodR x /\ True)) (∃ (y : Unit), True /\ false = goodR x /\ True)
theorem o_bytes : owes Tryz.prog (tab W0) LqW 0 311 Tryz.f311 BytesS = T_bytes := by kernel_rfl
theorem o_from : owes Tryz.prog (tab W0) LqW 1 76 Tryz.f76 FromS = T_from := by kernel_rfl
theorem o_clone : owes Tryz.prog (tab W0) LqW 0 310 Tryz.f310 (CloneS u8K) = T_clone := by kernel_rfl
theorem o_put : owes Tryz.prog (tab W1) LqW 1 301 Tryz.f301 PutS = T_put := by kernel_rfl
theorem o_good : owes Tryz.prog (tab W1) LqW 0 156 Tryz.f156 GoodS = T_good := by kernel_rfl
end Sp
end
section
set_option linter.all false
namespace Sp
open Go Go.Proofs Sx Go.Proofs.YthnhbnakpmkppaaGreat.Ma
theorem widZ (v6 : Bool) : wid v6 = (wd v6 : Int) := by cases v6 <;> rfl
theorem clampN (v6 : Bool) (n : Int) : clamp v6 n = min n.toNat (wd v6) := by unfold clamp; rw [widZ]; omega
theorem clampZ_eq (v6 : Bool) (n : Int) : ((clamp v6 n : Nat) : Int) = clampZ v6 n := by unfold clamp clampZ; rw [widZ]; omega
theorem mask_nat (hi lo : Int) (v6 : Bool) (n : Int) (h : wfA (hi, lo, v6)) : maskA (hi, lo, v6) n = (((keepN hi.toNat (min (clamp v6 n) 64) : Nat) : Int), ((keepN lo.toNat (clamp v6 n - 64) : Nat) : Int), v6) := by
  obtain ⟨⟨h1, h2⟩, h3, h4⟩ := h
  simp only at h1 h2 h3 h4
  obtain ⟨a, rfl⟩ := Int.eq_ofNat_of_zero_le h1
  obtain ⟨b, rfl⟩ := Int.eq_ofNat_of_zero_le h3
  rw [maskA_eq a b v6 n (by omega) (by omega), clampN]
  rfl
theorem toL_nat {x : Int} (h : 0 ≤ x) : A.l (.i .u64 ((x.toNat : Nat) : Int)) = A.l (.i .u64 x) := by rw [Int.toNat_of_nonneg h]
theorem g_maskZ : Good Tryz.prog 105 MaskZ := good_pure g_mask fun x' hx' => by
  obtain ⟨⟨hi, lo, v6⟩, n⟩ := x'
  have hx : wfA (hi, lo, v6) := hx'
  have hm := mask_nat hi lo v6 n hx
  obtain ⟨⟨h1, h2⟩, h3, h4⟩ := hx
  simp only at h1 h2 h3 h4
  refine ⟨((hi.toNat, lo.toNat, v6), n), ⟨by show hi.toNat < _; omega, by show lo.toNat < _; omega⟩, ?_, ?_⟩
  · show [V.agg [A.l (.i .u64 ((hi.toNat : Nat) : Int)), A.l (.i .u64 ((lo.toNat : Nat) : Int)), _], _] = _
    rw [toL_nat h1, toL_nat h3]
  · simp only [hm]
theorem g_ofZ : Good Tryz.prog 78 OfZ := good_pure g_of fun x' hx' => by
  obtain ⟨⟨hi, lo, v6⟩, n⟩ := x'
  have hx : wfA (hi, lo, v6) := hx'
  have hm := mask_nat hi lo v6 n hx
  obtain ⟨⟨h1, h2⟩, h3, h4⟩ := hx
  simp only at h1 h2 h3 h4
  refine ⟨((hi.toNat, lo.toNat, v6), n), ⟨by show hi.toNat < _; omega, by show lo.toNat < _; omega⟩, ?_, ?_⟩
  · show [V.agg [A.l (.i .u64 ((hi.toNat : Nat) : Int)), A.l (.i .u64 ((lo.toNat : Nat) : Int)), _], _] = _
    rw [toL_nat h1, toL_nat h3]
  · simp only [ofPf, hm, ofP, pV, clampZ_eq]
    rfl
theorem g_saneZ : Good Tryz.prog 38 SaneZ := good_pure g_sane fun x' hx' => by
  obtain ⟨hi, lo, v6, n⟩ := x'
  have hx : wfA (hi, lo, v6) := hx'
  have hm := mask_nat hi lo v6 n hx
  obtain ⟨⟨h1, h2⟩, h3, h4⟩ := hx
  simp only at h1 h2 h3 h4
  refine ⟨((hi.toNat, lo.toNat, v6), n), ⟨by show hi.toNat < _; omega, by show lo.toNat < _; omega⟩, ?_, ?_⟩
  · show [V.agg (A.l (.i .u64 ((hi.toNat : Nat) : Int)) :: A.l (.i .u64 ((lo.toNat : Nat) : Int)) :: _)] = _
    rw [toL_nat h1, toL_nat h3]
    rfl
  · show R.b (saneB _) = R.b (saneP _)
    congr 3
    rw [Bool.eq_iff_iff]
    unfold saneB saneP
    rw [decide_eq_true_eq, decide_eq_true_eq]
    unfold ofP ofPf
    show _ ↔ _ = mkP (maskA (hi, lo, v6) n) (clampZ v6 n)
    rw [hm, ← clampZ_eq]
    simp only [Prod.mk.injEq]
    constructor
    · rintro ⟨⟨e1, e2, _⟩, e4⟩
      exact ⟨by omega, by omega, trivial, e4⟩
    · rintro ⟨e1, e2, _, e4⟩
      exact ⟨⟨by omega, by omega, trivial⟩, e4⟩
theorem canA_nat (hi lo : Int) (v6 : Bool) (h : wfA (hi, lo, v6)) : canA (hi, lo, v6) = (((keepN hi.toNat (c0 v6) : Nat) : Int), ((keepN lo.toNat (c1 v6) : Nat) : Int), v6) := by
  have := mask_nat hi lo v6 (wd v6) h
  have e : maskA (hi, lo, v6) (wd v6) = canA (hi, lo, v6) := by
    unfold maskA canA
    rw [List.take_of_length_le]
    rw [bitsA_length]
    simp
  rw [← e, this, clampN]
  cases v6 <;> rfl
theorem g_readZ : Good Tryz.prog 117 ReadZ := good_pure g_read fun x' hx' => by
  obtain ⟨hi, lo, v6⟩ := x'
  have hx : wfA (hi, lo, v6) := hx'
  have hm := canA_nat hi lo v6 hx
  obtain ⟨⟨h1, h2⟩, h3, h4⟩ := hx
  simp only at h1 h2 h3 h4
  refine ⟨(hi.toNat, lo.toNat, v6), ⟨by show hi.toNat < _; omega, by show lo.toNat < _; omega⟩, ?_, ?_⟩
  · show [V.agg [A.l (.i .u64 ((hi.toNat : Nat) : Int)), A.l (.i .u64 ((lo.toNat : Nat) : Int)), _]] = _
    rw [toL_nat h1, toL_nat h3]
  · simp only [hm]
theorem g_widthZ : Good Tryz.prog 116 WidthZ := good_pure g_width fun v6 _ => ⟨v6, trivial, rfl, by rw [widZ]⟩
theorem GW0 : Goods Tryz.prog W0 := goods_cons g_saneZ (goods_cons g_ofZ (goods_cons g_maskZ (goods_cons g_readZ (goods_cons g_widthZ (goods_nil _)))))
/-! ### bytes -/
theorem byte_word (x j : Nat) (h : j < 8) : valB (((toB 64 x).drop (8 * j)).take 8) = x / 2 ^ (56 - 8 * j) % 256 := by
  have e : (64 : Nat) = 8 * j + (8 + (56 - 8 * j)) := by omega
  have h1 : toB 64 x = toB (8 * j) (x / 2 ^ (8 + (56 - 8 * j))) ++ (toB 8 (x / 2 ^ (56 - 8 * j)) ++ toB (56 - 8 * j) x) := by
    conv => lhs; rw [e]
    rw [toB_split, toB_split]
  rw [h1, List.drop_left' (toB_length _ _), List.take_left' (toB_length _ _), ← toB_mod, valB_toB (Nat.mod_lt _ (by decide))]
theorem bytesB_get (n : Nat) : ∀ (l : List Bool) (k : Nat), k < n → (bytesB n l)[k]? = some ((valB ((l.drop (8 * k)).take 8) : Nat) : Int) := by
  induction n with
  | zero => intro l k h; omega
  | succ n ih =>
    intro l k h
    cases k with
    | zero => simp [bytesB]
    | succ k =>
      rw [bytesB, List.getElem?_cons_succ, ih _ _ (by omega), List.drop_drop, show 8 + 8 * k = 8 * (k + 1) by omega]
theorem canA_bits (a : Ad) : toB 64 (canA a).1.toNat = padr 64 ((bitsA a).take 64) ∧ toB 64 (canA a).2.1.toNat = padr 64 ((bitsA a).drop 64) ∧ 0 ≤ (canA a).1 ∧ 0 ≤ (canA a).2.1 := by
  have hl : (bitsA a).length ≤ 128 := by rw [bitsA_length]; exact wd_le _
  simp only [canA, ofB, Int.toNat_natCast]
  exact ⟨toB_valB' (padr_take _), toB_valB' (padr_drop hl), Int.natCast_nonneg _, Int.natCast_nonneg _⟩
theorem bytesA_lo (a : Ad) (k : Nat) (h : k < wd a.2.2 / 8) (h8 : k < 8) : (bytesA a)[k]? = some ((canA a).1 / 2 ^ (56 - 8 * k) % 256) := by
  obtain ⟨h1, _, h0, _⟩ := canA_bits a
  have hl := bitsA_length a
  unfold bytesA
  rw [bytesB_get _ _ _ h]
  have e : ((bitsA a).drop (8 * k)).take 8 = ((toB 64 (canA a).1.toNat).drop (8 * k)).take 8 := by
    rw [h1]
    unfold padr
    rw [List.drop_append_of_le_length (by rw [List.length_take]; omega), List.take_append_of_le_length (by rw [List.length_drop, List.length_take]; omega), List.drop_take, List.take_take]
    congr 1
    omega
  rw [e, byte_word _ _ h8]
  obtain ⟨n, hn⟩ := Int.eq_ofNat_of_zero_le h0
  rw [hn]
  simp
theorem bytesA_hi (a : Ad) (k : Nat) (h : k < wd a.2.2 / 8) (h8 : 8 ≤ k) : (bytesA a)[k]? = some ((canA a).2.1 / 2 ^ (56 - 8 * (k - 8)) % 256) := by
  obtain ⟨_, h1, _, h0⟩ := canA_bits a
  have hl := bitsA_length a
  have hw := wd_le a.2.2
  unfold bytesA
  rw [bytesB_get _ _ _ h]
  have e : ((bitsA a).drop (8 * k)).take 8 = ((toB 64 (canA a).2.1.toNat).drop (8 * (k - 8))).take 8 := by
    rw [h1]
    unfold padr
    rw [List.drop_append_of_le_length (by rw [List.length_drop]; omega), List.take_append_of_le_length (by rw [List.length_drop, List.length_drop]; omega), List.drop_drop]
    congr 2
    omega
  rw [e, byte_word _ _ (by omega)]
  obtain ⟨n, hn⟩ := Int.eq_ofNat_of_zero_le h0
  rw [hn]
  simp
theorem set_next (l : List Int) (k : Nat) (x : Int) (h : l[k]? = some x) : (l.take k ++ List.replicate (l.length - k) (0 : Int)).set k x = l.take (k + 1) ++ List.replicate (l.length - (k + 1)) 0 := by
  obtain ⟨hk, e⟩ := List.getElem?_eq_some_iff.1 h
  rw [List.set_append, if_neg (by rw [List.length_take]; omega), List.length_take, Nat.min_eq_left (by omega), Nat.sub_self]
  obtain ⟨m, hm⟩ : ∃ m, l.length - k = m + 1 := ⟨l.length - k - 1, by omega⟩
  rw [hm, List.replicate_succ, List.set_cons_zero, List.take_succ_eq_append_getElem hk, e, List.append_assoc, show l.length - (k + 1) = m by omega]
  rfl
theorem p_bytes : T_bytes := by
  intro a ha
  refine ⟨a, rfl, rfl, rfl, ha, fun _ _ => ⟨a.2.2, rfl, trivial, fun _ _ => ?_⟩⟩
  have hlen := bytesA_length a
  obtain ⟨W, hW⟩ : ∃ W, wd a.2.2 / 8 = W := ⟨_, rfl⟩
  have hW2 : W = 16 ∨ W = 4 := by rw [← hW]; cases a.2.2 <;> simp [wd]
  have hWZ : (wd a.2.2 : Int) / 8 = (W : Int) := by omega
  rw [hWZ, Int.toNat_natCast]
  refine ⟨by omega, by omega, fun x => ∃ k : Nat, x.1 = k ∧ k ≤ W ∧ x.2 = (bytesA a).take k ++ List.replicate (W - k) 0, fun x => (W - x.1).toNat, ⟨(0, List.replicate W 0), ⟨0, rfl, by omega, by simp⟩, rfl, rfl, trivial⟩, ?_⟩
  rintro ⟨_, _⟩ ⟨k, rfl, hk, rfl⟩
  simp only
  refine ifB_d (fun hlt => ⟨by omega, by omega, ifB_d (fun h0 => ⟨by omega, by omega, by omega, by omega, by omega, (((k + 1 : Nat) : Int), (bytesA a).take (k + 1) ++ List.replicate (W - (k + 1)) 0), ⟨k + 1, rfl, by omega, rfl⟩, by simp only; omega, by simp only; omega, ?_, trivial⟩) fun h0 => ifB_d (fun h1 => ⟨by omega, by omega, by omega, by omega, by omega, (((k + 1 : Nat) : Int), (bytesA a).take (k + 1) ++ List.replicate (W - (k + 1)) 0), ⟨k + 1, rfl, by omega, rfl⟩, by simp only; omega, by simp only; omega, ?_, trivial⟩) fun h1 => by omega⟩) fun hge => ?_
  · have e := bytesA_lo a k (by omega) (by omega)
    have := set_next (bytesA a) k _ e
    rw [hlen, hW] at this
    rw [Int.toNat_natCast]
    refine Eq.trans ?_ this
    congr 4
    omega
  · have e := bytesA_hi a k (by omega) (by omega)
    have := set_next (bytesA a) k _ e
    rw [hlen, hW] at this
    rw [Int.toNat_natCast]
    refine Eq.trans ?_ this
    congr 4
    omega
  · refine ⟨(), trivial, by omega, ?_, trivial⟩
    rw [show k = W by omega, Nat.sub_self, List.take_of_length_le (by omega)]
    simp
theorem g_bytes : Good Tryz.prog 311 BytesS := good_of_owes hM hP GW0 Tryz.func311 rfl (o_bytes ▸ p_bytes)
theorem p_clone : T_clone := by
  intro x hx
  have hx : x.length ≤ 1000000 := hx
  refine ⟨fun h => ⟨(), trivial, h.symm, (List.length_eq_zero_iff.1 h).symm, trivial⟩, ⟨by omega, by omega⟩, (), trivial, by omega, rfl, trivial⟩
theorem g_clone : Good Tryz.prog 310 (CloneS u8K) := good_of_owes hM hP GW0 Tryz.func310 rfl (o_clone ▸ p_clone)
theorem padr_app (l m : List Bool) (h : (l ++ m).length ≤ 64) : valB (padr 64 (l ++ m)) = valB l * 2 ^ (64 - l.length) + valB m * 2 ^ (64 - l.length - m.length) := by
  rw [List.length_append] at h
  have e1 : m.length + (64 - (l.length + m.length)) = 64 - l.length := by omega
  have e2 : 64 - l.length - m.length = 64 - (l.length + m.length) := by omega
  unfold padr
  rw [valB_append, valB_append, List.length_replicate, valB_zeros, List.length_append, Nat.add_zero, Nat.add_mul, Nat.mul_assoc, ← Nat.pow_add, e1, e2]
theorem or_byte (l : List Bool) (k : Nat) (hk : k < 8) (hl : l.length = 8 * k) (c : Int) (h0 : 0 ≤ c) (h1 : c ≤ 255) :
    bits .or .u64 ((valB (padr 64 l) : Nat) : Int) (c * 2 ^ (56 - 8 * k) % 18446744073709551616) = ((valB (padr 64 (l ++ toB 8 c.toNat)) : Nat) : Int) := by
  obtain ⟨n, rfl⟩ := Int.eq_ofNat_of_zero_le h0
  have hn : n < 256 := by omega
  have hp : (2 : Nat) ^ (64 - 8 * k) = 256 * 2 ^ (56 - 8 * k) := by rw [show (256 : Nat) = 2 ^ 8 from rfl, ← Nat.pow_add]; congr 1; omega
  have hlt : n * 2 ^ (56 - 8 * k) < 2 ^ (64 - 8 * k) := by rw [hp]; exact Nat.mul_lt_mul_of_pos_right hn (Nat.two_pow_pos _)
  have hle : (2 : Nat) ^ (64 - 8 * k) ≤ 2 ^ 64 := Nat.pow_le_pow_right (by omega) (by omega)
  have e1 : ((n : Int) * 2 ^ (56 - 8 * k) % 18446744073709551616) = ((n * 2 ^ (56 - 8 * k) : Nat) : Int) := by
    have : ((n : Int) * 2 ^ (56 - 8 * k)) = ((n * 2 ^ (56 - 8 * k) : Nat) : Int) := by rw [Int.natCast_mul, Int.natCast_pow]; rfl
    rw [this]
    have h64 : (2 : Nat) ^ 64 = 18446744073709551616 := rfl
    omega
  have e2 := padr_app l [] (by simp; omega)
  have e3 := padr_app l (toB 8 n) (by rw [List.length_append, toB_length]; omega)
  rw [List.append_nil, hl, valB_nil, Nat.zero_mul, Nat.add_zero] at e2
  rw [hl, toB_length, valB_toB (by omega), show 64 - 8 * k - 8 = 56 - 8 * k by omega] at e3
  rw [e1, e2, Int.toNat_natCast, e3]
  refine or_join _ _ _ hlt ?_
  have := valB_lt l
  rw [hl] at this
  have h3 : (valB l + 1) * 2 ^ (64 - 8 * k) ≤ 2 ^ (8 * k) * 2 ^ (64 - 8 * k) := Nat.mul_le_mul_right _ this
  rw [← Nat.pow_add, show 8 * k + (64 - 8 * k) = 64 by omega, Nat.add_mul, Nat.one_mul] at h3
  have h64 : (2 : Nat) ^ 64 = 18446744073709551616 := rfl
  omega
theorem bitsL_take_succ (x : List Int) (k : Nat) (h : k < x.length) : bitsL (x.take (k + 1)) = bitsL (x.take k) ++ toB 8 (x.getD k 0).toNat := by
  rw [List.take_succ_eq_append_getElem h, bitsL_append]
  simp [bitsL, List.getD_eq_getElem?_getD, List.getElem?_eq_getElem h]
theorem bitsL_take_length (x : List Int) (k : Nat) (h : k ≤ x.length) : (bitsL (x.take k)).length = 8 * k := by rw [bitsL_length, List.length_take, Nat.min_eq_left h]
theorem fromE_ok {b : List Int} (h : b.length = 4 ∨ b.length = 16) : fromE b = (fromL b, 0) := if_pos h
theorem pad0 (x : List Int) : (0 : Int) = ((valB (padr 64 ((bitsL (x.take 0)).take 64)) : Nat) : Int) := by
  have : (bitsL (x.take 0)).take 64 = [] := by simp [bitsL]
  rw [this]; decide
theorem pad0' (x : List Int) : (0 : Int) = ((valB (padr 64 ((bitsL (x.take 0)).drop 64)) : Nat) : Int) := by
  have : (bitsL (x.take 0)).drop 64 = [] := by simp [bitsL]
  rw [this]; decide
theorem p_from : T_from := by
  unfold T_from; try dsimp only [H_SpWt_1]
  intro x hx
  have hx : okB x := hx
  refine ifB_nn (fun h16 h4 => ?_) fun h416 => ?_
  · have e : fromE x = ((0, 0, false), 4) := if_neg (by omega)
    rw [e]
    exact ⟨(), trivial, rfl, rfl, rfl, rfl, trivial⟩
  have e := fromE_ok (b := x) (by omega)
  rw [e]
  refine ⟨fun q => ∃ k : Nat, q.1 = k ∧ k ≤ x.length ∧ q.2.1 = ((valB (padr 64 ((bitsL (x.take k)).take 64)) : Nat) : Int) ∧ q.2.2 = ((valB (padr 64 ((bitsL (x.take k)).drop 64)) : Nat) : Int), fun q => (x.length - q.1).toNat, ⟨(0, 0, 0), ⟨0, rfl, by omega, pad0 _, pad0' _⟩, rfl, rfl, rfl, trivial⟩, ?_⟩
  rintro ⟨_, _, _⟩ ⟨k, rfl, hk, rfl, rfl⟩
  simp only
  refine ifB_d (fun hlt => ?_) fun hge => ?_
  · have hlt : k < x.length := by omega
    have hb := okB_getD hx k
    have hbk := bitsL_take_length x k (by omega)
    have hs := bitsL_take_succ x k hlt
    have hnx : (∃ k' : Nat, ((k : Int) + 1) = k' ∧ k' ≤ x.length ∧ ((valB (padr 64 ((bitsL (x.take (k + 1))).take 64)) : Nat) : Int) = ((valB (padr 64 ((bitsL (x.take k')).take 64)) : Nat) : Int) ∧ ((valB (padr 64 ((bitsL (x.take (k + 1))).drop 64)) : Nat) : Int) = ((valB (padr 64 ((bitsL (x.take k')).drop 64)) : Nat) : Int)) := ⟨k + 1, by omega, by omega, rfl, rfl⟩
    refine ⟨by omega, by omega, by omega, ifB_d (fun h0 => ⟨by omega, by omega, by omega, ifB_d (fun _ => ⟨by omega, ((k : Int) + 1, ((valB (padr 64 ((bitsL (x.take (k + 1))).take 64)) : Nat) : Int), ((valB (padr 64 ((bitsL (x.take (k + 1))).drop 64)) : Nat) : Int)), hnx, by simp only; omega, rfl, ?_, ?_, trivial⟩) fun h1 => absurd h0 h1⟩) fun h0 => ifB_d (fun h1 => ⟨by omega, by omega, by omega, ifB_d (fun h1 => absurd h1 h0) fun _ => ifB_d (fun _ => ⟨by omega, ((k : Int) + 1, ((valB (padr 64 ((bitsL (x.take (k + 1))).take 64)) : Nat) : Int), ((valB (padr 64 ((bitsL (x.take (k + 1))).drop 64)) : Nat) : Int)), hnx, by simp only; omega, rfl, ?_, ?_, trivial⟩) fun h2 => absurd h1 h2⟩) fun h1 => by omega⟩
    · have hk8 : k < 8 := by omega
      have := or_byte ((bitsL (x.take k)).take 64) k hk8 (by rw [List.length_take]; omega) (x.getD k 0) hb.1 hb.2
      rw [Int.toNat_natCast, show min ((56 - (k : Int) * 8 % 64) % 18446744073709551616).toNat 64 = 56 - 8 * k by omega, this, hs]
      congr 3
      rw [List.take_of_length_le (l := bitsL (x.take k)) (by omega), List.take_of_length_le (l := bitsL (x.take k) ++ _) (by rw [List.length_append, toB_length]; omega)]
    · show ((valB (padr 64 ((bitsL (x.take k)).drop 64)) : Nat) : Int) = ((valB (padr 64 ((bitsL (x.take (k + 1))).drop 64)) : Nat) : Int)
      have d1 : (bitsL (x.take k)).drop 64 = [] := List.drop_eq_nil_of_le (by omega)
      have d2 : (bitsL (x.take k) ++ toB 8 (x.getD k 0).toNat).drop 64 = [] := List.drop_eq_nil_of_le (by rw [List.length_append, toB_length]; omega)
      rw [hs, d1, d2]
    · show ((valB (padr 64 ((bitsL (x.take k)).take 64)) : Nat) : Int) = ((valB (padr 64 ((bitsL (x.take (k + 1))).take 64)) : Nat) : Int)
      rw [hs, List.take_append_of_le_length (l₁ := bitsL (x.take k)) (by omega)]
    · have := or_byte ((bitsL (x.take k)).drop 64) (k - 8) (by omega) (by rw [List.length_drop]; omega) (x.getD k 0) hb.1 hb.2
      rw [Int.toNat_natCast, show min ((56 - (k : Int) * 8 % 64) % 18446744073709551616).toNat 64 = 56 - 8 * (k - 8) by omega, this, hs, List.drop_append_of_le_length (by omega)]
  · have hkl : k = x.length := by omega
    subst hkl
    rw [List.take_length]
    refine ⟨(), trivial, rfl, rfl, ?_, trivial, trivial⟩
    show decide ((x.length : Int) = 16) = decide (x.length = 16)
    rw [decide_eq_decide]
    omega
theorem g_from : Good Tryz.prog 76 FromS := good_of_owes hM hP GW0 Tryz.func76 rfl (o_from ▸ p_from)
theorem GW1 : Goods Tryz.prog W1 := goods_cons g_bytes (goods_cons g_from (goods_cons g_clone GW0))
theorem putP_sane {p : Pf} (h : saneP p = true) (m : Int) (hm : m = if p.2.2.1 = true then 6 else 4) (b : List Int) : b ++ [m, p.2.2.2 % 256] ++ ((bytesA (pA p)).take (longZ p.2.2.2)).drop 0 = b ++ putP p := by
  obtain ⟨_, h0, h1⟩ := sane_iff.1 h
  have := wd_le p.2.2.1
  unfold putP
  rw [if_pos h, hm, Int.emod_eq_of_lt (by omega) (by omega), List.append_assoc]
  rfl
theorem putP_bad {p : Pf} (h : saneP p = false) : putP p = [] := by unfold putP; rw [if_neg (by simp [h])]
theorem p_put : T_put := by
  rintro ⟨b, p⟩ ⟨hb, hp⟩
  have hb : b.length ≤ 1000000 := hb
  refine ⟨b, rfl, rfl, hb, fun _ _ => ⟨p, rfl, rfl, rfl, rfl, hp, fun _ _ => ?_⟩⟩
  cases hs : saneP p with
  | false => exact ⟨(), trivial, by rw [putP_bad hs, List.append_nil], by rw [putP_bad hs, List.append_nil], trivial⟩
  | true =>
    obtain ⟨_, h0, h1⟩ := sane_iff.1 hs
    have hw := wd_le p.2.2.1
    have hl := longZ_le h1
    have hlb := bytesA_length (pA p)
    have hn : ((p.2.2.2 + 8 - 1) / 8).toNat = longZ p.2.2.2 := by unfold longZ; omega
    have ht := List.length_take (l := bytesA (pA p)) (i := longZ p.2.2.2)
    have fin : ∀ m : Int, m = (if p.2.2.1 = true then (6 : Int) else 4) → b.length + [m, p.2.2.2 % 256].length + (((bytesA (pA p)).take (longZ p.2.2.2)).drop 0).length = (b ++ putP p).length := fun m hm => by
      rw [← putP_sane hs m hm b, List.length_append, List.length_append]
    dsimp only
    refine ifB_b (c := p.2.2.1) (fun h6 => ?_) fun h4 => ?_
    · have h6 : p.2.2.1 = true := h6
      have hm : (6 : Int) = if p.2.2.1 = true then (6 : Int) else 4 := by rw [if_pos h6]
      refine ⟨⟨by simp; omega, by simp; omega⟩, pA p, rfl, rfl, rfl, hp, fun _ _ => ⟨by omega, by omega, by omega, by rw [hlb]; simp only; rw [h6] at h1 ⊢; simp [wd] at h1 ⊢; omega, ?_, (), trivial, ?_, ?_, trivial⟩⟩
      · simp only [hn, List.drop_zero, ht, List.length_cons, List.length_nil]; omega
      · simp only [hn]; exact fin 6 hm
      · simp only [hn]; exact putP_sane hs 6 hm b
    · have h4 : p.2.2.1 = false := h4
      have hm : (4 : Int) = if p.2.2.1 = true then (6 : Int) else 4 := by rw [if_neg (by simp [h4])]
      refine ⟨⟨by simp; omega, by simp; omega⟩, pA p, rfl, rfl, rfl, hp, fun _ _ => ⟨by omega, by omega, by omega, by rw [hlb]; simp only; rw [h4] at h1 ⊢; simp [wd] at h1 ⊢; omega, ?_, (), trivial, ?_, ?_, trivial⟩⟩
      · simp only [hn, List.drop_zero, ht, List.length_cons, List.length_nil]; omega
      · simp only [hn]; exact fin 4 hm
      · simp only [hn]; exact putP_sane hs 4 hm b
theorem g_put : Good Tryz.prog 301 PutS := good_of_owes hM hP GW1 Tryz.func301 rfl (o_put ▸ p_put)
theorem p_good : T_good := by
  intro r hr
  obtain ⟨hi, lo, v6, n, hop⟩ := r
  refine ifB_d (fun h => ifB_d (fun h1 => ⟨(hi, lo, v6, n), rfl, rfl, rfl, rfl, hr, fun _ _ => ⟨(), trivial, ?_, trivial⟩⟩) fun h1 => ⟨(), trivial, ?_, trivial⟩) fun h => ⟨(), trivial, ?_, trivial⟩
  · simp only at h h1
    simp [goodR, h, h1, rP]
  · simp only at h h1
    simp [goodR, h, h1]
  · simp only at h
    simp [goodR, h]
theorem g_good : Good Tryz.prog 156 GoodS := good_of_owes hM hP GW1 Tryz.func156 rfl (o_good ▸ p_good)
theorem GW2 : Goods Tryz.prog W2 := goods_cons g_put (goods_cons g_good GW1)
theorem putP_length_le (p : Pf) : (putP p).length ≤ 18 := by
  cases hs : saneP p with
  | false => rw [putP_bad hs]; simp
  | true =>
    have := putP_length hs
    obtain ⟨_, h0, h1⟩ := sane_iff.1 hs
    have := wd_le p.2.2.1
    have := longZ_le h1
    omega
end Sp
end
section
set_option linter.all false
namespace Sp
open Go Go.Proofs Sx Go.Proofs.YthnhbnakpmkppaaGreat.Ma
def pfx (v6 : Bool) (l : List Bool) : Pf := mkP (ofB v6 l) l.length
def bitsP (p : Pf) : List Bool := (bitsA (pA p)).take p.2.2.2.toNat
def bitW (a : Ad) (i : Nat) : Int := if (bitsA a).getD i false = true then 1 else 0
def childP (p : Pf) (b : Bool) : Pf := pfx p.2.2.1 (bitsP p ++ [b])
def oddZ (v : Int) : Bool := decide (v = 1)
def childR (p : Pf) (v : Int) : Pf × Bool := if saneP p = true ∧ p.2.2.2 < wd p.2.2.1 then (childP p (oddZ v), true) else (zP, false)
def parentR (p : Pf) : Pf × Bool := if saneP p = true ∧ 0 < p.2.2.2 then (ofPf (pA p) (p.2.2.2 - 1), true) else (zP, false)
def siblingR (p : Pf) : Pf × Bool := if saneP p = true ∧ 0 < p.2.2.2 then (childP (ofPf (pA p) (p.2.2.2 - 1)) (!((bitsA (pA p)).getD (p.2.2.2 - 1).toNat false)), true) else (zP, false)
def containsP (p : Pf) (a : Ad) : Bool := saneP p && decide (p = ofPf a p.2.2.2)
def coversP (p q : Pf) : Bool := decide (p.2.2.2 ≤ q.2.2.2) && (saneP q && containsP p (pA q))
def BitZ : Con := .pure (Ad × Int) (fun x => [.agg (adV x.1), .i .i64 x.2]) (fun x => wfA x.1 ∧ 0 ≤ x.2 ∧ x.2 < wd x.1.2.2) fun x => .i .i64 (bitW x.1 x.2.toNat)
def SetZ : Con := .pure (Ad × Int × Int) (fun x => [.agg (adV x.1), .i .i64 x.2.1, .i .i64 x.2.2]) (fun x => wfA x.1 ∧ 0 ≤ x.2.1 ∧ x.2.1 < wd x.1.2.2 ∧ 0 ≤ x.2.2 ∧ x.2.2 ≤ 2) fun x => .v (.agg (adV (ofB x.1.2.2 ((bitsA x.1).set x.2.1.toNat (oddZ x.2.2)))))
def ChildZ : Con := .pure (Pf × Int) (fun x => [.agg (pfV x.1), .i .i64 x.2]) (fun x => wfP x.1 ∧ 0 ≤ x.2 ∧ x.2 ≤ 2) fun x => .tup [.agg (pfV (childR x.1 x.2).1), .b (childR x.1 x.2).2]
def ParentZ : Con := .pure Pf (fun p => [.agg (pfV p)]) wfP fun p => .tup [.agg (pfV (parentR p).1), .b (parentR p).2]
def SiblingZ : Con := .pure Pf (fun p => [.agg (pfV p)]) wfP fun p => .tup [.agg (pfV (siblingR p).1), .b (siblingR p).2]
def ContainsZ : Con := .pure (Pf × Ad) (fun x => [.agg (pfV x.1), .agg (adV x.2)]) (fun x => wfP x.1 ∧ wfA x.2) fun x => .b (containsP x.1 x.2)
def CoversZ : Con := .pure (Pf × Pf) (fun x => [.agg (pfV x.1), .agg (pfV x.2)]) (fun x => wfP x.1 ∧ wfP x.2) fun x => .b (coversP x.1 x.2)
def P0 : List (Nat × Con) := (223, BitZ) :: (234, SetZ) :: (269, ParentZ) :: (33, ContainsZ) :: W2
def P1 : List (Nat × Con) := (174, ChildZ) :: (264, CoversZ) :: P0
def P2 : List (Nat × Con) := (268, SiblingZ) :: P1
def LqP : FuncId → Nat → Lan
  | _, _ => .none
end Sp
end
