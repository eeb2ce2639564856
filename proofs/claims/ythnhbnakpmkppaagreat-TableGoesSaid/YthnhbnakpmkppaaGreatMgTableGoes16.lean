import Derived.ProofKit
import Derived.Test.YthnhbnakpmkppaaGreatMgTableGoes5
import Derived.Test.YthnhbnakpmkppaaGreatMgTableGoes11
import Derived.Test.YthnhbnakpmkppaaGreatMgTableGoes13
import Derived.Test.YthnhbnakpmkppaaGreatMgTableGoes14
import Derived.Test.YthnhbnakpmkppaaGreatMgTableGoes15
section
set_option linter.all false
set_option maxRecDepth 100000
namespace Sp
open Go Go.Proofs Sx
@[reducible] def H_SpSt_1 (v1 : Int × Pf) (v2 : Sk × Pf) : Prop :=
 (-9223372036854775808 : Int) <= hashP v1.1 v1.2 % (v2.1.2 % (18446744073709551616 : Int)) /\ hashP v1.1 v1.2 % (v2.1.2 % (18446744073709551616 : Int)) <= (9223372036854775807 : Int)
@[reducible] def H_SpSt_2 (v1 : Int × Pf) : Prop :=
 ((0 : Int) <= (pA v1.2).1 /\ (pA v1.2).1 < (18446744073709551616 : Int)) /\ (0 : Int) <= (pA v1.2).2.1 /\ (pA v1.2).2.1 < (18446744073709551616 : Int)
def T_hash  : Prop :=
 ∀ (x : Int × Pf), ((0 : Int) <= (pA x.2).1 /\ (pA x.2).1 < (18446744073709551616 : Int)) /\ (0 : Int) <= (pA x.2).2.1 /\ (pA x.2).2.1 < (18446744073709551616 : Int) -> ∃ (x_1 : List Int × Pf), (0 :
 Nat) = x_1.1.length /\ x.2.1 = x_1.2.1 /\ x.2.2.1 = x_1.2.2.1 /\ x.2.2.2.1 = x_1.2.2.2.1 /\ x.2.2.2.2 = x_1.2.2.2.2 /\ [] = x_1.1 /\ (x_1.1.length <= most /\ ((0 : Int) <= (pA x_1.2).1 /\ (pA x_1.2).1
 < (18446744073709551616 : Int)) /\ (0 : Int) <= (pA x_1.2).2.1 /\ (pA x_1.2).2.1 < (18446744073709551616 : Int)) /\ ∀ (y : Unit), True -> ((0 : Int) <= (0 : Int) /\ (0 : Int) < (2 : Int)) /\ ∃ (I :
 Int × Int -> Prop), ∃ (μ : Int × Int -> Nat), (∃ (x : Int × Int), I x /\ (0 : Int) = x.1 /\ (14695981039346656037 : Int) = x.2 /\ True) /\ ∀ (x_2 : Int × Int), I x_2 -> ifB (decide (x_2.1 < (1 :
 Int))) (((0 : Int) <= x_2.1 /\ x_2.1 < (1 : Int)) /\ ((-9223372036854775808 : Int) <= x_2.1 + (1 : Int) /\ x_2.1 + (1 : Int) <= (9223372036854775807 : Int)) /\ ∃ (y : Int × Int), I y /\ μ y < μ x_2 /\
 x_2.1 + (1 : Int) = y.1 /\ bits BinOp.xor IntKind.u64 x_2.2 ([max x.1 (0 : Int) % (256 : Int)].getD x_2.1.toNat (0 : Int)) * (1099511628211 : Int) % (18446744073709551616 : Int) = y.2 /\ True)
 (((-9223372036854775808 : Int) <= (1 : Int) /\ (1 : Int) <= (9223372036854775807 : Int)) /\ ((0 : Int) <= (1 : Int) /\ (1 : Int) < (2 : Int)) /\ ∃ (I : Int × Int -> Prop), ∃ (μ : Int × Int -> Nat), (∃
 (x : Int × Int), I x /\ (0 : Int) = x.1 /\ x_2.2 = x.2 /\ True) /\ ∀ (x_3 : Int × Int), I x_3 -> ifB (decide (x_3.1 < (↑(x_1.1 ++ putP x_1.2).length : Int))) (((0 : Int) <= x_3.1 /\ x_3.1 < (↑(x_1.1
 ++ putP x_1.2).length : Int)) /\ ((-9223372036854775808 : Int) <= x_3.1 + (1 : Int) /\ x_3.1 + (1 : Int) <= (9223372036854775807 : Int)) /\ ∃ (y : Int × Int), I y /\ μ y < μ x_3 /\ x_3.1 + (1 : Int) =
 y.1 /\ bits BinOp.xor IntKind.u64 x_3.2 ((x_1.1 ++ putP x_1.2).getD x_3.1.toNat (0 : Int)) * (1099511628211 : Int) % (18446744073709551616 : Int) = y.2 /\ True) (((-9223372036854775808 : Int) <= (2 :
 Int) /\ (2 : Int) <= (9223372036854775807 : Int)) /\ ∃ (y : Unit), True /\ x_3.2 = hashP x.1 x.2 /\ True))
def T_snew  : Prop :=
 ∀ (x : Int × Int), True -> ((-9223372036854775808 : Int) <= max (1 : Int) (min x.1 (4 : Int)) * max (1 : Int) (min x.2 (256 : Int)) /\ max (1 : Int) (min x.1 (4 : Int)) * max (1 : Int) (min x.2 (256 :
 Int)) <= (9223372036854775807 : Int)) /\ ((0 : Int) <= max (1 : Int) (min x.1 (4 : Int)) * max (1 : Int) (min x.2 (256 : Int)) /\ max (1 : Int) (min x.1 (4 : Int)) * max (1 : Int) (min x.2 (256 :
 Int)) <= max (1 : Int) (min x.1 (4 : Int)) * max (1 : Int) (min x.2 (256 : Int)) /\ max (1 : Int) (min x.1 (4 : Int)) * max (1 : Int) (min x.2 (256 : Int)) <= (140737488355328 : Int) /\ max (1 : Int)
 (min x.1 (4 : Int)) * max (1 : Int) (min x.2 (256 : Int)) * (1 : Int) <= (140737488355328 : Int)) /\ ∃ (y : Unit), True /\ (max (1 : Int) (min x.1 (4 : Int)) * max (1 : Int) (min x.2 (256 :
 Int))).toNat = (newK x.1 x.2).1.length /\ max (1 : Int) (min x.2 (256 : Int)) = (newK x.1 x.2).2 /\ List.replicate (max (1 : Int) (min x.1 (4 : Int)) * max (1 : Int) (min x.2 (256 : Int))).toNat (0 :
 Int) = (newK x.1 x.2).1 /\ True
def T_sadd  : Prop :=
 ∀ (x : Sk × Pf), okK x.1 /\ ((0 : Int) <= (pA x.2).1 /\ (pA x.2).1 < (18446744073709551616 : Int)) /\ (0 : Int) <= (pA x.2).2.1 /\ (pA x.2).2.1 < (18446744073709551616 : Int) -> ifB (decide
 ((↑x.1.1.length : Int) = (0 : Int))) (∃ (y : Unit), True /\ false = saneP x.2 /\ x.1.1 = (addK x.1 x.2).1 /\ True) (∃ (x_1 : Int × Int × Bool × Int), x.2.1 = x_1.1 /\ x.2.2.1 = x_1.2.1 /\ x.2.2.2.1 =
 x_1.2.2.1 /\ x.2.2.2.2 = x_1.2.2.2 /\ (((0 : Int) <= (pA x_1).1 /\ (pA x_1).1 < (18446744073709551616 : Int)) /\ (0 : Int) <= (pA x_1).2.1 /\ (pA x_1).2.1 < (18446744073709551616 : Int)) /\ ∀ (y :
 Unit), True -> ifB (!saneP x_1) (∃ (y : Unit), True /\ false = saneP x.2 /\ x.1.1 = (addK x.1 x.2).1 /\ True) (((0 : Int) <= (↑x.1.1.length : Int) /\ (0 : Int) < x.1.2) /\ ∃ (I : Int × List Int ->
 Prop), ∃ (μ : Int × List Int -> Nat), (∃ (x_2 : Int × List Int), I x_2 /\ (0 : Int) = x_2.1 /\ x.1.1 = x_2.2 /\ True) /\ ∀ (x_2 : Int × List Int), I x_2 -> ifB (decide (x_2.1 < (↑x.1.1.length : Int) /
 x.1.2)) (((-9223372036854775808 : Int) <= x_2.1 * x.1.2 /\ x_2.1 * x.1.2 <= (9223372036854775807 : Int)) /\ ∃ (x_3 : Int × Pf), x_2.1 = x_3.1 /\ x.2.1 = x_3.2.1 /\ x.2.2.1 = x_3.2.2.1 /\ x.2.2.2.1 =
 x_3.2.2.2.1 /\ x.2.2.2.2 = x_3.2.2.2.2 /\ (H_SpSt_2 x_3) /\ ∀ (y : Unit), True -> ((0 : Int) <= hashP x_3.1 x_3.2 /\ (0 : Int) < x.1.2 % (18446744073709551616 : Int)) /\ (H_SpSt_1 x_3 x) /\
 ((-9223372036854775808 : Int) <= x_2.1 * x.1.2 + hashP x_3.1 x_3.2 % (x.1.2 % (18446744073709551616 : Int)) /\ x_2.1 * x.1.2 + hashP x_3.1 x_3.2 % (x.1.2 % (18446744073709551616 : Int)) <=
 (9223372036854775807 : Int)) /\ ((0 : Int) <= x_2.1 * x.1.2 + hashP x_3.1 x_3.2 % (x.1.2 % (18446744073709551616 : Int)) /\ x_2.1 * x.1.2 + hashP x_3.1 x_3.2 % (x.1.2 % (18446744073709551616 : Int)) <
 (↑x.1.1.length : Int)) /\ ((-9223372036854775808 : Int) <= x_2.1 + (1 : Int) /\ x_2.1 + (1 : Int) <= (9223372036854775807 : Int)) /\ ∃ (y : Int × List Int), I y /\ μ y < μ x_2 /\ x_2.1 + (1 : Int) =
 y.1 /\ x_2.2.set (x_2.1 * x.1.2 + hashP x_3.1 x_3.2 % (x.1.2 % (18446744073709551616 : Int))).toNat ((x_2.2.getD (x_2.1 * x.1.2 + hashP x_3.1 x_3.2 % (x.1.2 % (18446744073709551616 : Int))).toNat (0 :
 Int) + min (1 : Int) (((255 : Int) - x_2.2.getD (x_2.1 * x.1.2 + hashP x_3.1 x_3.2 % (x.1.2 % (18446744073709551616 : Int))).toNat (0 : Int)) % (256 : Int))) % (256 : Int)) = y.2 /\ True) (∃ (y :
 Unit), True /\ true = saneP x.2 /\ x_2.2 = (addK x.1 x.2).1 /\ True)))
def T_scount  : Prop :=
 ∀ (x : Sk × Pf), okK x.1 /\ ((0 : Int) <= (pA x.2).1 /\ (pA x.2).1 < (18446744073709551616 : Int)) /\ (0 : Int) <= (pA x.2).2.1 /\ (pA x.2).2.1 < (18446744073709551616 : Int) -> ifB (decide
 ((↑x.1.1.length : Int) = (0 : Int))) (∃ (y : Unit), True /\ (0 : Int) = countK x.1 x.2 /\ True) (∃ (x_1 : Int × Int × Bool × Int), x.2.1 = x_1.1 /\ x.2.2.1 = x_1.2.1 /\ x.2.2.2.1 = x_1.2.2.1 /\
 x.2.2.2.2 = x_1.2.2.2 /\ (((0 : Int) <= (pA x_1).1 /\ (pA x_1).1 < (18446744073709551616 : Int)) /\ (0 : Int) <= (pA x_1).2.1 /\ (pA x_1).2.1 < (18446744073709551616 : Int)) /\ ∀ (y : Unit), True ->
 ifB (!saneP x_1) (∃ (y : Unit), True /\ (0 : Int) = countK x.1 x.2 /\ True) (((0 : Int) <= (↑x.1.1.length : Int) /\ (0 : Int) < x.1.2) /\ ∃ (I : Int × Int -> Prop), ∃ (μ : Int × Int -> Nat), (∃ (x :
 Int × Int), I x /\ (0 : Int) = x.1 /\ (255 : Int) = x.2 /\ True) /\ ∀ (x_2 : Int × Int), I x_2 -> ifB (decide (x_2.1 < (↑x.1.1.length : Int) / x.1.2)) (((-9223372036854775808 : Int) <= x_2.1 * x.1.2
 /\ x_2.1 * x.1.2 <= (9223372036854775807 : Int)) /\ ∃ (x_3 : Int × Pf), x_2.1 = x_3.1 /\ x.2.1 = x_3.2.1 /\ x.2.2.1 = x_3.2.2.1 /\ x.2.2.2.1 = x_3.2.2.2.1 /\ x.2.2.2.2 = x_3.2.2.2.2 /\ (H_SpSt_2 x_3)
 /\ ∀ (y : Unit), True -> ((0 : Int) <= hashP x_3.1 x_3.2 /\ (0 : Int) < x.1.2 % (18446744073709551616 : Int)) /\ (H_SpSt_1 x_3 x) /\ ((-9223372036854775808 : Int) <= x_2.1 * x.1.2 + hashP x_3.1 x_3.2
 % (x.1.2 % (18446744073709551616 : Int)) /\ x_2.1 * x.1.2 + hashP x_3.1 x_3.2 % (x.1.2 % (18446744073709551616 : Int)) <= (9223372036854775807 : Int)) /\ ((0 : Int) <= x_2.1 * x.1.2 + hashP x_3.1
 x_3.2 % (x.1.2 % (18446744073709551616 : Int)) /\ x_2.1 * x.1.2 + hashP x_3.1 x_3.2 % (x.1.2 % (18446744073709551616 : Int)) < (↑x.1.1.length : Int)) /\ ((-9223372036854775808 : Int) <= x_2.1 + (1 :
 Int) /\ x_2.1 + (1 : Int) <= (9223372036854775807 : Int)) /\ ∃ (y : Int × Int), I y /\ μ y < μ x_2 /\ x_2.1 + (1 : Int) = y.1 /\ min x_2.2 (x.1.1.getD (x_2.1 * x.1.2 + hashP x_3.1 x_3.2 % (x.1.2 %
 (18446744073709551616 : Int))).toNat (0 : Int)) = y.2 /\ True) (∃ (y : Unit), True /\ x_2.2 = countK x.1 x.2 /\ True)))
def T_sdecay  : Prop :=
 ∀ (x : List Int × Int), okK x -> ∃ (I : Int × List Int -> Prop), ∃ (μ : Int × List Int -> Nat), (∃ (x_1 : Int × List Int), I x_1 /\ (0 : Int) = x_1.1 /\ x.1 = x_1.2 /\ True) /\ ∀ (x_1 : Int × List
 Int), I x_1 -> ifB (decide (x_1.1 < (↑x.1.length : Int))) (((0 : Int) <= x_1.1 /\ x_1.1 < (↑x.1.length : Int)) /\ ((0 : Int) <= x_1.2.getD x_1.1.toNat (0 : Int) /\ (0 : Int) < (2 : Int)) /\ ((0 : Int)
 <= x_1.1 /\ x_1.1 < (↑x.1.length : Int)) /\ ((-9223372036854775808 : Int) <= x_1.1 + (1 : Int) /\ x_1.1 + (1 : Int) <= (9223372036854775807 : Int)) /\ ∃ (y : Int × List Int), I y /\ μ y < μ x_1 /\
 x_1.1 + (1 : Int) = y.1 /\ x_1.2.set x_1.1.toNat (x_1.2.getD x_1.1.toNat (0 : Int) / (2 : Int)) = y.2 /\ True) (∃ (y : Unit), True /\ x_1.2 = (decK x).1 /\ True)
theorem o_hash : owes Tryz.prog (tab R4) LqS 1 282 Tryz.f282 HashS = T_hash := by kernel_rfl
theorem o_snew : owes Tryz.prog (tab S0) LqS 0 83 Tryz.f83 NewS = T_snew := by kernel_rfl
theorem o_sadd : owes Tryz.prog (tab S0) LqS 2 179 Tryz.f179 AddS = T_sadd := by kernel_rfl
theorem o_scount : owes Tryz.prog (tab S0) LqSc 2 220 Tryz.f220 CountS = T_scount := by kernel_rfl
theorem o_sdecay : owes Tryz.prog (tab S0) LqS 0 165 Tryz.f165 DecayS = T_sdecay := by kernel_rfl
end Sp
end
section
set_option linter.all false
set_option maxRecDepth 10000
namespace Sp
open Go Go.Proofs Sx Go.Proofs.YthnhbnakpmkppaaGreat.Ma
theorem hashP_range (row : Int) (p : Pf) : 0 ≤ hashP row p ∧ hashP row p < 18446744073709551616 := by
  have : ∀ (l : List Int) (h : Int), l ≠ [] → 0 ≤ l.foldl hstep h ∧ l.foldl hstep h < 18446744073709551616 := by
    intro l
    induction l with
    | nil => exact fun _ h => absurd rfl h
    | cons a l ih =>
      intro h _
      cases l with
      | nil =>
        rw [List.foldl_cons, List.foldl_nil]
        unfold hstep
        exact ⟨Int.emod_nonneg _ (by decide), Int.emod_lt_of_pos _ (by decide)⟩
      | cons b l =>
        rw [List.foldl_cons]
        exact ih (hstep h a) (List.cons_ne_nil _ _)
  unfold hashP
  exact this (max row 0 % 256 :: putP p) 14695981039346656037 (List.cons_ne_nil _ _)
theorem foldl_take {α : Type} (f : α → Int → α) (l : List Int) (a : α) (n : Nat) (h : n < l.length) : (l.take (n + 1)).foldl f a = f ((l.take n).foldl f a) (l.getD n 0) := by
  rw [List.take_succ, List.foldl_append, List.getD_eq_getElem?_getD, List.getElem?_eq_getElem h]
  rfl
theorem p_hash : T_hash := by
  rintro ⟨row, p⟩ hw
  dsimp only at hw ⊢
  refine ⟨([], p), rfl, rfl, rfl, rfl, rfl, rfl, ⟨Nat.zero_le _, hw⟩, fun _ _ => ⟨by omega, fun x => 0 ≤ x.1 ∧ x.1 ≤ 1 ∧ x.2 = (([max row 0 % 256] : List Int).take x.1.toNat).foldl hstep 14695981039346656037, fun x => (1 - x.1).toNat, ⟨(0, 14695981039346656037), ⟨by omega, by omega, rfl⟩, rfl, rfl, trivial⟩, ?_⟩⟩
  rintro ⟨k, h⟩ ⟨k0, k1, hh⟩
  dsimp only at k0 k1 hh ⊢
  refine ifB_d (fun hk => ⟨by omega, by omega, (k + 1, hstep h (([max row 0 % 256] : List Int).getD k.toNat 0)), ⟨by omega, by omega, ?_⟩, by simp only; omega, rfl, rfl, trivial⟩) fun hk => ⟨by omega, by omega, ?_⟩
  · dsimp only
    rw [show (k + 1).toNat = k.toNat + 1 by omega, foldl_take _ _ _ _ (by simp only [List.length_singleton]; omega), hh]
  obtain rfl : k = 1 := by omega
  refine ⟨fun x => 0 ≤ x.1 ∧ x.1 ≤ (putP p).length ∧ x.2 = ((putP p).take x.1.toNat).foldl hstep h, fun x => ((putP p).length - x.1).toNat, ⟨(0, h), ⟨by omega, by omega, rfl⟩, rfl, rfl, trivial⟩, ?_⟩
  rintro ⟨j, g⟩ ⟨j0, j1, hg⟩
  dsimp only at j0 j1 hg ⊢
  rw [List.nil_append]
  have hlen : (putP p).length ≤ 1000 := by
    cases hs : saneP p with
    | false => unfold putP; rw [hs, if_neg (by decide)]; decide
    | true =>
      have := putP_length hs
      obtain ⟨_, n0, n1⟩ := sane_iff.1 hs
      have := wd_le p.2.2.1
      unfold longZ at this
      unfold longZ at *
      omega
  refine ifB_d (fun hk => ⟨by omega, by omega, (j + 1, hstep g ((putP p).getD j.toNat 0)), ⟨by omega, by omega, ?_⟩, by simp only; omega, rfl, rfl, trivial⟩) fun hk => ⟨by omega, (), trivial, ?_, trivial⟩
  · dsimp only
    rw [show (j + 1).toNat = j.toNat + 1 by omega, foldl_take _ _ _ _ (by omega), hg]
  · rw [hg, List.take_of_length_le (by omega), hh]
    rfl
theorem newK_len (r w : Int) : 1 ≤ rowsN r ∧ rowsN r ≤ 4 ∧ 1 ≤ widN w ∧ widN w ≤ 256 ∧ ((newK r w).1.length : Int) = rowsN r * widN w := by
  have h1 : 1 ≤ rowsN r ∧ rowsN r ≤ 4 := by unfold rowsN; omega
  have h2 : 1 ≤ widN w ∧ widN w ≤ 256 := by unfold widN; omega
  have : 0 ≤ rowsN r * widN w := Int.mul_nonneg (by omega) (by omega)
  refine ⟨h1.1, h1.2, h2.1, h2.2, ?_⟩
  unfold newK
  rw [List.length_replicate]
  omega
theorem mul_le4 {r w : Int} (h1 : 1 ≤ r) (h2 : r ≤ 4) (h3 : 1 ≤ w) (h4 : w ≤ 256) : 1 ≤ r * w ∧ r * w ≤ 1024 := by
  have a : r * w ≤ 4 * w := Int.mul_le_mul_of_nonneg_right h2 (by omega)
  have b : 1 * w ≤ r * w := Int.mul_le_mul_of_nonneg_right h1 (by omega)
  omega
theorem okK_new (r w : Int) : okK (newK r w) := by
  obtain ⟨a, b, c, d, e⟩ := newK_len r w
  refine ⟨⟨c, d⟩, ⟨(rowsN r).toNat, by omega, by omega, ?_⟩, ?_⟩
  · rw [e, show (((rowsN r).toNat : Nat) : Int) = rowsN r by omega]
    rfl
  · intro x hx
    obtain rfl := (List.mem_replicate.1 hx).2
    omega
theorem p_snew : T_snew := by
  rintro ⟨r, w⟩ _
  dsimp only
  obtain ⟨a, b, c, d, e⟩ := newK_len r w
  have f := mul_le4 a b c d
  change (-9223372036854775808 ≤ rowsN r * widN w ∧ rowsN r * widN w ≤ 9223372036854775807) ∧ (0 ≤ rowsN r * widN w ∧ rowsN r * widN w ≤ rowsN r * widN w ∧ rowsN r * widN w ≤ 140737488355328 ∧ rowsN r * widN w * 1 ≤ 140737488355328) ∧ _
  refine ⟨by omega, by omega, (), trivial, ?_, rfl, rfl, trivial⟩
  have := e
  show (rowsN r * widN w).toNat = _
  omega
theorem okK.rows {s : Sk} (h : okK s) : ∃ r : Nat, rowsK s = r ∧ 1 ≤ r ∧ r ≤ 4 ∧ (s.1.length : Int) = r * s.2 := by
  obtain ⟨r, r1, r2, hl⟩ := h.l
  refine ⟨r, ?_, r1, r2, hl⟩
  unfold rowsK
  rw [hl, Int.mul_ediv_cancel _ (by have := h.w; omega)]
  rfl
theorem okK.pos {s : Sk} (h : okK s) {k : Nat} (hk : k < rowsK s) (p : Pf) : 0 ≤ (k : Int) * s.2 ∧ (k : Int) * s.2 ≤ 1024 ∧ 0 ≤ hashP k p % s.2 ∧ hashP k p % s.2 < 256 ∧ (k : Int) * s.2 + hashP k p % s.2 < s.1.length ∧ ((posK s p k : Nat) : Int) = k * s.2 + hashP k p % s.2 := by
  obtain ⟨r, hr, r1, r2, hl⟩ := h.rows
  have hw := h.w
  have hh := hashP_range k p
  have m0 := Int.emod_nonneg (hashP k p) (show s.2 ≠ 0 by omega)
  have m1 := Int.emod_lt_of_pos (hashP k p) (show 0 < s.2 by omega)
  have a : 0 ≤ (k : Int) * s.2 := Int.mul_nonneg (by omega) (by omega)
  have b : ((k : Int) + 1) * s.2 ≤ r * s.2 := Int.mul_le_mul_of_nonneg_right (by omega) (by omega)
  rw [Int.add_mul, Int.one_mul] at b
  have c : (r : Int) * s.2 ≤ 1024 := (mul_le4 (by omega) (by omega) hw.1 hw.2).2
  unfold posK
  omega
theorem fold_range {α : Type} (f : α → Nat → α) (a : α) (n : Nat) : (List.range (n + 1)).foldl f a = f ((List.range n).foldl f a) n := by
  rw [List.range_succ, List.foldl_append]
  rfl
def addTo (s : Sk) (p : Pf) (n : Nat) : List Int := (List.range n).foldl (fun l k => incK l (posK s p k)) s.1
theorem incK_ok {l : List Int} (h : ∀ x ∈ l, 0 ≤ x ∧ x ≤ 255) (i : Nat) : (incK l i).length = l.length ∧ ∀ x ∈ incK l i, 0 ≤ x ∧ x ≤ 255 := by
  refine ⟨List.length_set, fun x hx => ?_⟩
  rcases List.mem_or_eq_of_mem_set hx with hx | rfl
  · exact h x hx
  · have : 0 ≤ l.getD i 0 := by
      by_cases hi : i < l.length
      · rw [List.getD_eq_getElem?_getD, List.getElem?_eq_getElem hi]
        exact (h _ (List.getElem_mem hi)).1
      · rw [List.getD_eq_getElem?_getD, List.getElem?_eq_none (by omega)]
        exact Int.le_refl _
    omega
theorem addTo_ok {s : Sk} (h : okK s) (p : Pf) : ∀ n, (addTo s p n).length = s.1.length ∧ ∀ x ∈ addTo s p n, 0 ≤ x ∧ x ≤ 255
  | 0 => ⟨rfl, h.c⟩
  | n + 1 => by
    have ih := addTo_ok h p n
    unfold addTo at *
    rw [fold_range]
    have := incK_ok ih.2 (posK s p n)
    exact ⟨this.1.trans ih.1, this.2⟩
theorem okK.same {s : Sk} (h : okK s) {l : List Int} (h1 : l.length = s.1.length) (h2 : ∀ x ∈ l, 0 ≤ x ∧ x ≤ 255) : okK (l, s.2) := by
  refine ⟨h.w, ?_, h2⟩
  obtain ⟨r, a, b, c⟩ := h.l
  exact ⟨r, a, b, by dsimp only; rw [h1]; exact c⟩
theorem okK_add {s : Sk} (h : okK s) (p : Pf) : okK (addK s p) := by
  unfold addK
  split
  · exact h.same (addTo_ok h p _).1 (addTo_ok h p _).2
  · exact h
theorem okK_dec {s : Sk} (h : okK s) : okK (decK s) := by
  refine h.same (l := s.1.map (· / 2)) (List.length_map ..) fun x hx => ?_
  obtain ⟨y, hy, rfl⟩ := List.mem_map.1 hx
  have := h.c y hy
  omega
theorem okK.pos0 {s : Sk} (h : okK s) : (s.1.length : Int) ≠ 0 := by
  obtain ⟨r, a, b, c⟩ := h.l
  have := mul_le4 (r := r) (w := s.2) (by omega) (by omega) h.w.1 h.w.2
  omega
theorem getD_ok {l : List Int} (h : ∀ x ∈ l, 0 ≤ x ∧ x ≤ 255) (i : Nat) : 0 ≤ l.getD i 0 ∧ l.getD i 0 ≤ 255 := by
  by_cases hi : i < l.length
  · rw [List.getD_eq_getElem?_getD, List.getElem?_eq_getElem hi]
    exact h _ (List.getElem_mem hi)
  · rw [List.getD_eq_getElem?_getD, List.getElem?_eq_none (by omega)]
    exact ⟨Int.le_refl _, by decide⟩
theorem p_sadd : T_sadd := by
  unfold T_sadd; try dsimp only [H_SpSt_2, H_SpSt_1]
  rintro ⟨s, p⟩ ⟨hs, hw⟩
  dsimp only at hs hw ⊢
  have hpos := hs.pos0
  have hsw := hs.w
  obtain ⟨r, hr, r1, r2, hl⟩ := hs.rows
  refine ifB_d (fun h => absurd h hpos) fun _ => ⟨p, rfl, rfl, rfl, rfl, hw, fun _ _ => ifB_b (fun hb => ?_) fun hb => ?_⟩
  · have hb : saneP p = false := by simpa using hb
    refine ⟨(), trivial, hb.symm, ?_, trivial⟩
    unfold addK
    rw [hb, if_neg (by decide)]
  have hb : saneP p = true := by simpa using hb
  have hq : (s.1.length : Int) / s.2 = r := by rw [hl, Int.mul_ediv_cancel _ (by omega)]
  refine ⟨by omega, fun x => 0 ≤ x.1 ∧ x.1 ≤ r ∧ x.2 = addTo s p x.1.toNat, fun x => (r - x.1).toNat, ⟨(0, s.1), ⟨by omega, by omega, rfl⟩, rfl, rfl, trivial⟩, ?_⟩
  rintro ⟨k, l⟩ ⟨k0, k1, hm⟩
  dsimp only at k0 k1 hm ⊢
  subst hm
  rw [hq]
  have hw64 : s.2 % 18446744073709551616 = s.2 := by omega
  have hok := addTo_ok hs p k.toNat
  refine ifB_d (fun hk => ?_) fun hk => ⟨(), trivial, hb.symm, ?_, trivial⟩
  · have hkk : ((k.toNat : Nat) : Int) = k := by omega
    obtain ⟨a1, a2, a3, a4, a5, a6⟩ := hs.pos (k := k.toNat) (by omega) p
    rw [hkk] at a1 a2 a3 a4 a5 a6
    have hh := hashP_range k p
    have hg := getD_ok hok.2 (posK s p k.toNat)
    refine ⟨by omega, (k, p), rfl, rfl, rfl, rfl, rfl, hw, fun _ _ => ?_⟩
    dsimp only
    rw [hw64]
    refine ⟨by omega, by omega, by omega, by omega, by omega, (k + 1, addTo s p (k + 1).toNat), ⟨by omega, by omega, rfl⟩, by simp only; omega, rfl, ?_, trivial⟩
    dsimp only
    rw [show (k * s.2 + hashP k p % s.2).toNat = posK s p k.toNat by omega, show (k + 1).toNat = k.toNat + 1 by omega]
    conv => rhs; unfold addTo
    rw [fold_range]
    show _ = incK (addTo s p k.toNat) (posK s p k.toNat)
    unfold incK
    congr 1
    omega
  · obtain rfl : k = r := by omega
    unfold addK
    rw [hb, if_pos rfl, hr]
    rfl
theorem p_scount : T_scount := by
  unfold T_scount; try dsimp only [H_SpSt_2, H_SpSt_1]
  rintro ⟨s, p⟩ ⟨hs, hw⟩
  dsimp only at hs hw ⊢
  have hpos := hs.pos0
  have hsw := hs.w
  obtain ⟨r, hr, r1, r2, hl⟩ := hs.rows
  refine ifB_d (fun h => absurd h hpos) fun _ => ⟨p, rfl, rfl, rfl, rfl, hw, fun _ _ => ifB_b (fun hb => ?_) fun hb => ?_⟩
  · have hb : saneP p = false := by simpa using hb
    refine ⟨(), trivial, ?_, trivial⟩
    unfold countK
    rw [hb, if_neg (by decide)]
  have hb : saneP p = true := by simpa using hb
  have hq : (s.1.length : Int) / s.2 = r := by rw [hl, Int.mul_ediv_cancel _ (by omega)]
  refine ⟨by omega, fun x => 0 ≤ x.1 ∧ x.1 ≤ r ∧ x.2 = (List.range x.1.toNat).foldl (fun n k => min n (s.1.getD (posK s p k) 0)) 255, fun x => (r - x.1).toNat, ⟨(0, 255), ⟨by omega, by omega, rfl⟩, rfl, rfl, trivial⟩, ?_⟩
  rintro ⟨k, l⟩ ⟨k0, k1, hm⟩
  dsimp only at k0 k1 hm ⊢
  subst hm
  rw [hq]
  have hw64 : s.2 % 18446744073709551616 = s.2 := by omega
  refine ifB_d (fun hk => ?_) fun hk => ⟨(), trivial, ?_, trivial⟩
  · have hkk : ((k.toNat : Nat) : Int) = k := by omega
    obtain ⟨a1, a2, a3, a4, a5, a6⟩ := hs.pos (k := k.toNat) (by omega) p
    rw [hkk] at a1 a2 a3 a4 a5 a6
    have hh := hashP_range k p
    refine ⟨by omega, (k, p), rfl, rfl, rfl, rfl, rfl, hw, fun _ _ => ?_⟩
    dsimp only
    rw [hw64]
    refine ⟨by omega, by omega, by omega, by omega, by omega, (k + 1, (List.range (k + 1).toNat).foldl (fun n k => min n (s.1.getD (posK s p k) 0)) 255), ⟨by omega, by omega, rfl⟩, by simp only; omega, rfl, ?_, trivial⟩
    dsimp only
    rw [show (k * s.2 + hashP k p % s.2).toNat = posK s p k.toNat by omega, show (k + 1).toNat = k.toNat + 1 by omega, fold_range]
  · obtain rfl : k = r := by omega
    unfold countK
    rw [hb, if_pos rfl, hr]
    rfl
theorem p_sdecay : T_sdecay := by
  rintro ⟨l, w⟩ hs
  dsimp only at hs ⊢
  have hlen : (l.length : Int) ≤ 1024 := by
    obtain ⟨r, a, b, c⟩ := hs.l
    have := mul_le4 (r := r) (w := w) (by omega) (by omega) hs.w.1 hs.w.2
    dsimp only at c
    omega
  refine ⟨fun x => 0 ≤ x.1 ∧ x.1 ≤ l.length ∧ x.2 = (l.take x.1.toNat).map (· / 2) ++ l.drop x.1.toNat, fun x => (l.length - x.1).toNat, ⟨(0, l), ⟨by omega, by omega, rfl⟩, rfl, rfl, trivial⟩, ?_⟩
  rintro ⟨k, m⟩ ⟨k0, k1, hm⟩
  dsimp only at k0 k1 hm ⊢
  subst hm
  refine ifB_d (fun hk => ?_) fun hk => ⟨(), trivial, ?_, trivial⟩
  · have hl1 : ((l.take k.toNat).map (· / 2)).length = k.toNat := by rw [List.length_map, List.length_take]; omega
    have hget : ((l.take k.toNat).map (· / 2) ++ l.drop k.toNat).getD k.toNat 0 = l.getD k.toNat 0 := by
      rw [List.getD_eq_getElem?_getD, List.getElem?_append_right (by omega), hl1, Nat.sub_self, List.getElem?_drop, List.getD_eq_getElem?_getD]
      rfl
    rw [hget]
    have hg := getD_ok (l := l) hs.c k.toNat
    refine ⟨by omega, by omega, by omega, by omega, (k + 1, (l.take (k + 1).toNat).map (· / 2) ++ l.drop (k + 1).toNat), ⟨by omega, by omega, rfl⟩, by simp only; omega, rfl, ?_, trivial⟩
    dsimp only
    have hlt : k.toNat < l.length := by omega
    rw [show (k + 1).toNat = k.toNat + 1 by omega, List.set_append_right _ _ (by omega), hl1, Nat.sub_self, List.take_succ, List.getElem?_eq_getElem hlt, List.drop_eq_getElem_cons hlt, List.getD_eq_getElem?_getD, List.getElem?_eq_getElem hlt, List.map_append, List.append_assoc]
    rfl
  · rw [List.take_of_length_le (by omega), List.drop_eq_nil_of_le (by omega), List.append_nil]
    rfl
theorem GS0 : Goods Tryz.prog S0 := goods_cons (good_of_owes hM hP GR4 Tryz.func282 rfl (o_hash ▸ p_hash)) GR4
theorem GS1 : Goods Tryz.prog S1 := goods_cons (good_of_owes hM hP GS0 Tryz.func83 rfl (o_snew ▸ p_snew)) (goods_cons (good_of_owes hM hP GS0 Tryz.func179 rfl (o_sadd ▸ p_sadd)) (goods_cons (good_of_owes hM hP GS0 Tryz.func220 rfl (o_scount ▸ p_scount)) (goods_cons (good_of_owes hM hP GS0 Tryz.func165 rfl (o_sdecay ▸ p_sdecay)) GS0)))
end Sp
end
section
set_option linter.all false
namespace Sp
open Go Go.Proofs Sx Go.Proofs.YthnhbnakpmkppaaGreat.Ma
/-! ### a trie: its entries in order, and how often it was changed -/
structure TrM where
  e : List Rt
  k : Nat
structure okTr (m : TrM) (t : Trie) : Prop where
  ok : t.ok
  dump : t.dump = m.e
  n : t.n = m.e.length
  ar : t.ar.length ≤ 2 + 128 * m.k
  fr : t.fr.length ≤ 128 * m.k
  le : m.e.length ≤ m.k
@[reducible] def trP : Pk := { M := TrM, Z := Trie, φ := okTr, obs := fun t => [trC 1 2 t, .row true ndK t.ar, .row true intK t.fr] }
def trNew : Trie := ⟨[(-1, -1, -1, false, 0), (-1, -1, -1, false, 0)], [], 0, .node 0 none .nil .nil, .node 1 none .nil .nil⟩
def NewT : Con := { X := Unit, args := fun _ => [], heap := fun _ => [], pre := fun _ => True, outs := [{ Y := Unit, post := fun _ _ => True, res := fun _ _ => .a (.p 0 0), out := fun _ _ => [(0, trC 1 2 trNew), (1, .row true ndK trNew.ar), (2, .row true intK trNew.fr)], nn := 3 }] }
def NewTP : Con := { X := Unit, args := fun _ => [], heap := fun _ => [], pre := fun _ => True, outs := [{ Y := Unit, post := fun _ _ => True, res := fun _ _ => .a (.p 0 0), out := fun _ _ => [(0, trP.ob ⟨[], 0⟩)], nn := 1 }] }
def AboveTP : Con := .rowP trP (TrM × Pf) (fun x => x.1) (fun x => [.agg (pfV x.2)]) (fun x => wfP x.2) rtK fun x => abvE x.1.e x.2
def UnderTP : Con := .rowP trP (TrM × Pf) (fun x => x.1) (fun x => [.agg (pfV x.2)]) (fun x => wfP x.2) rtK fun x => undE x.1.e x.2
def TrM.longest (m : TrM) (a : Ad) : List Rt := abvE m.e (ofPf a (wd a.2.2))
def LongestTP : Con := .lookP trP (TrM × Ad) (fun x => x.1) (fun x => [.agg (adV x.2)]) (fun x => wfA x.2) fun x => .tup [.agg (rtV ((x.1.longest x.2).getLastD zR)), .b (!(x.1.longest x.2).isEmpty)]
def GetTP : Con := .lookP trP (TrM × Pf) (fun x => x.1) (fun x => [.agg (pfV x.2)]) (fun x => wfP x.2) fun x => .tup [.i .i64 (((getE x.1.e x.2).map (·.2.2.2.2)).getD 0), .b (getE x.1.e x.2).isSome]
def InsideTP : Con := .lookP trP (TrM × Pf) (fun x => x.1) (fun x => [.agg (pfV x.2)]) (fun x => wfP x.2) fun x => .b (insideE x.1.e x.2)
def LenTP : Con := .lookP trP TrM (fun x => x) (fun _ => []) (fun _ => True) fun x => .i .i64 x.e.length
def TrM.put (m : TrM) (p : Pf) (v : Int) : TrM := if saneP p = true then ⟨insE m.e (mkR p v), m.k + 1⟩ else m
def TrM.del (m : TrM) (p : Pf) : TrM := if saneP p = true then ⟨delE m.e p, m.k + 1⟩ else m
def PutTP : Con := .setP trP (TrM × Pf × Int) (fun x => x.1) (fun x => [.agg (pfV x.2.1), .i .i64 x.2.2]) (fun x => wfP x.2.1 ∧ x.1.k ≤ 7000) (fun x => x.1.put x.2.1 x.2.2) fun x => .i .i64 (if saneP x.2.1 = true then 0 else 1)
def DelTP : Con := .setP trP (TrM × Pf) (fun x => x.1) (fun x => [.agg (pfV x.2)]) (fun x => wfP x.2 ∧ x.1.k ≤ 7000) (fun x => x.1.del x.2) fun x => .i .i64 (if saneP x.2 = true then (if (getE x.1.e x.2).isSome = true then 0 else 2) else 1)
/-! ### numbers in order -/
abbrev RcM := List Int × Nat
@[reducible] def rcP : Pk := { M := RcM, Z := Rc, φ := fun m z => okO z ∧ z.o = m.1 ∧ z.is.length = m.2, obs := rcW }
def RcM.in' (m : RcM) (i : Int) : Bool := decide (0 ≤ i) && decide (i < m.2)
def TouchOP : Con := .setP rcP (RcM × Int) (fun x => x.1) (fun x => [.i .i64 x.2]) (fun _ => True) (fun x => if x.1.in' x.2 = true then (x.2 :: x.1.1.erase x.2, x.1.2) else x.1) fun x => .b (x.1.in' x.2)
def DropOP : Con := .setP rcP (RcM × Int) (fun x => x.1) (fun x => [.i .i64 x.2]) (fun _ => True) (fun x => (x.1.1.erase x.2, x.1.2)) fun x => .b (decide (x.2 ∈ x.1.1))
def LenOP : Con := .lookP rcP RcM (fun x => x) (fun _ => []) (fun _ => True) fun x => .i .i64 x.1.length
def OrderOP : Con := .rowP rcP RcM (fun x => x) (fun _ => []) (fun _ => True) intK fun x => x.1
def NewOP : Con := { X := Int, args := fun m => [.i .i64 m], heap := fun _ => [], pre := fun _ => True, outs := [{ Y := Unit, post := fun _ _ => True, res := fun _ _ => .a (.p 0 0), out := fun m _ => [(0, rcP.ob ([], (max 0 (min m 1024)).toNat))], nn := 1 }] }
/-! ### places -/
structure SlM where
  pl : Int → Option Rt
  n : Int
  most : Int
@[reducible] def slP : Pk := { M := SlM, Z := Sl, φ := fun m z => Sp.okSl z ∧ m = ⟨z.at, z.n, z.most⟩, obs := slW }
def updF {α : Type} (f : Int → Option α) (i : Int) (x : Option α) : Int → Option α := fun j => if j = i then x else f j
def TakeSP : Con := { X := SlM × Rt, args := fun x => [.one (.p 0 0), .agg (rtV x.2)], heap := fun x => [slP.ob x.1], pre := fun _ => True, outs := [{ Y := Int, post := fun x i => (x.1.n < x.1.most → x.1.pl i = none ∧ 0 ≤ i ∧ i < x.1.most) ∧ (¬ x.1.n < x.1.most → i = 0), res := fun x i => .tup [.i .i64 i, .b (decide (x.1.n < x.1.most))], out := fun x i => [(0, slP.ob (if x.1.n < x.1.most then ⟨updF x.1.pl i (some x.2), x.1.n + 1, x.1.most⟩ else x.1))], nn := 0 }] }
def GiveSP : Con := .setP slP (SlM × Int) (fun x => x.1) (fun x => [.i .i64 x.2]) (fun _ => True) (fun x => ⟨updF x.1.pl x.2 none, if (x.1.pl x.2).isSome = true then x.1.n - 1 else x.1.n, x.1.most⟩) fun x => .b (x.1.pl x.2).isSome
def AtSP : Con := .lookP slP (SlM × Int) (fun x => x.1) (fun x => [.i .i64 x.2]) (fun _ => True) fun x => .tup [.agg (rtV ((x.1.pl x.2).getD zRt)), .b (x.1.pl x.2).isSome]
def LenSP : Con := .lookP slP SlM (fun x => x) (fun _ => []) (fun _ => True) fun x => .i .i64 x.n
def CapSP : Con := .lookP slP SlM (fun x => x) (fun _ => []) (fun _ => True) fun x => .i .i64 x.most
def NewSP : Con := { X := Int, args := fun m => [.i .i64 m], heap := fun _ => [], pre := fun _ => True, outs := [{ Y := Unit, post := fun _ _ => True, res := fun _ _ => .a (.p 0 0), out := fun m _ => [(0, slP.ob ⟨fun _ => none, 0, max 0 (min m 1024)⟩)], nn := 1 }] }
/-! ### counts -/
@[reducible] def skP : Pk := { M := Sk, Z := Sk, φ := fun m z => z = m ∧ okK m, obs := fun z => [skC 1 z, .row true u8K z.1] }
def AddKP : Con := .setP skP (Sk × Pf) (fun x => x.1) (fun x => [.agg (pfV x.2)]) (fun x => wfP x.2) (fun x => addK x.1 x.2) fun x => .b (saneP x.2)
def CountKP : Con := .lookP skP (Sk × Pf) (fun x => x.1) (fun x => [.agg (pfV x.2)]) (fun x => wfP x.2) fun x => .i .i64 (countK x.1 x.2)
def DecayKP : Con := .setP skP Sk (fun x => x) (fun _ => []) (fun _ => True) (fun x => decK x) fun _ => .tup []
def NewKP : Con := { X := Int × Int, args := fun x => [.i .i64 x.1, .i .i64 x.2], heap := fun _ => [], pre := fun _ => True, outs := [{ Y := Unit, post := fun _ _ => True, res := fun _ _ => .a (.p 0 0), out := fun x _ => [(0, skP.ob (newK x.1 x.2))], nn := 1 }] }
def LqN : FuncId → Nat → Lan
  | _, _ => .none
end Sp
end
section
set_option linter.all false
set_option maxRecDepth 100000
namespace Sp
open Go Go.Proofs Sx
@[reducible] def H_SpPkt_1 (v1 : Trie × Pf) : Prop :=
 TR v1.1.ar v1.1.fr v1.1.t0 v1.1.t1 /\ ((0 : Int) <= (pA v1.2).1 /\ (pA v1.2).1 < (18446744073709551616 : Int)) /\ (0 : Int) <= (pA v1.2).2.1 /\ (pA v1.2).2.1 < (18446744073709551616 : Int)
@[reducible] def H_SpPkt_2 (v1 : Sk × Pf) : Prop :=
 okK v1.1 /\ ((0 : Int) <= (pA v1.2).1 /\ (pA v1.2).1 < (18446744073709551616 : Int)) /\ (0 : Int) <= (pA v1.2).2.1 /\ (pA v1.2).2.1 < (18446744073709551616 : Int)
def T_tnew  : Prop :=
 ∀ (x : Unit), True -> ∃ (y : Unit), True /\ (2 : Nat) = (2 : Nat) /\ (0 : Nat) = (0 : Nat) /\ (0 : Int) = (0 : Int) /\ [((-1 : Int), (-1 : Int), (-1 : Int), false, (0 : Int)), ((-1 : Int), (-1 : Int),
 (-1 : Int), false, (0 : Int))] = trNew.ar /\ [] = trNew.fr /\ True
def T_tpnew  : Prop :=
 ∀ (x' : Unit), True -> ∃ (x : Unit), True /\ ∀ (y : Unit), True -> ∃ (m' : TrM), ∃ (z : Trie), okTr m' z /\ (2 : Nat) = z.ar.length /\ (0 : Nat) = z.fr.length /\ (0 : Int) = z.n /\ trNew.ar = z.ar /\
 trNew.fr = z.fr /\ ∃ (y : Unit), True /\ absR trP m' = absR trP (TrM.mk [] (0 : Nat)) /\ True
def T_tpabove  : Prop :=
 ∀ (x' : TrM × Pf), ((0 : Int) <= (pA x'.2).1 /\ (pA x'.2).1 < (18446744073709551616 : Int)) /\ (0 : Int) <= (pA x'.2).2.1 /\ (pA x'.2).2.1 < (18446744073709551616 : Int) -> ∃ (m : TrM), absR trP m =
 absR trP x'.1 /\ ∀ (z : Trie), okTr m z -> ∃ (x : Trie × Pf), x'.2.1 = x.2.1 /\ x'.2.2.1 = x.2.2.1 /\ x'.2.2.2.1 = x.2.2.2.1 /\ x'.2.2.2.2 = x.2.2.2.2 /\ z.ar.length = x.1.ar.length /\ z.fr.length =
 x.1.fr.length /\ z.n = x.1.n /\ z.ar = x.1.ar /\ z.fr = x.1.fr /\ (H_SpPkt_1 x) /\ ∀ (y : Unit), True -> ∃ (m' : TrM), ∃ (z_1 : Trie), okTr m' z_1 /\ z.ar.length = z_1.ar.length /\ z.fr.length =
 z_1.fr.length /\ z.n = z_1.n /\ z.ar = z_1.ar /\ z.fr = z_1.fr /\ ∃ (y : Unit), True /\ (x.1.above x.2).length = (abvE x'.1.e x'.2).length /\ absR trP m' = absR trP x'.1 /\ x.1.above x.2 = abvE x'.1.e
 x'.2 /\ True
def T_tpunder  : Prop :=
 ∀ (x' : TrM × Pf), ((0 : Int) <= (pA x'.2).1 /\ (pA x'.2).1 < (18446744073709551616 : Int)) /\ (0 : Int) <= (pA x'.2).2.1 /\ (pA x'.2).2.1 < (18446744073709551616 : Int) -> ∃ (m : TrM), absR trP m =
 absR trP x'.1 /\ ∀ (z : Trie), okTr m z -> ∃ (x : Trie × Pf), x'.2.1 = x.2.1 /\ x'.2.2.1 = x.2.2.1 /\ x'.2.2.2.1 = x.2.2.2.1 /\ x'.2.2.2.2 = x.2.2.2.2 /\ z.ar.length = x.1.ar.length /\ z.fr.length =
 x.1.fr.length /\ z.n = x.1.n /\ z.ar = x.1.ar /\ z.fr = x.1.fr /\ (H_SpPkt_1 x) /\ ∀ (y : Unit), True -> ∃ (m' : TrM), ∃ (z_1 : Trie), okTr m' z_1 /\ z.ar.length = z_1.ar.length /\ z.fr.length =
 z_1.fr.length /\ z.n = z_1.n /\ z.ar = z_1.ar /\ z.fr = z_1.fr /\ ∃ (y : Unit), True /\ (x.1.under x.2).length = (undE x'.1.e x'.2).length /\ absR trP m' = absR trP x'.1 /\ x.1.under x.2 = undE x'.1.e
 x'.2 /\ True
def T_tplongest  : Prop :=
 ∀ (x' : TrM × Ad), ((0 : Int) <= x'.2.1 /\ x'.2.1 < (18446744073709551616 : Int)) /\ (0 : Int) <= x'.2.2.1 /\ x'.2.2.1 < (18446744073709551616 : Int) -> ∃ (m : TrM), absR trP m = absR trP x'.1 /\ ∀ (z
 : Trie), okTr m z -> ∃ (x : Trie × Ad), x'.2.1 = x.2.1 /\ x'.2.2.1 = x.2.2.1 /\ x'.2.2.2 = x.2.2.2 /\ z.ar.length = x.1.ar.length /\ z.fr.length = x.1.fr.length /\ z.n = x.1.n /\ z.ar = x.1.ar /\ z.fr
 = x.1.fr /\ (TR x.1.ar x.1.fr x.1.t0 x.1.t1 /\ ((0 : Int) <= x.2.1 /\ x.2.1 < (18446744073709551616 : Int)) /\ (0 : Int) <= x.2.2.1 /\ x.2.2.1 < (18446744073709551616 : Int)) /\ ∀ (y : Unit), True ->
 ∃ (m' : TrM), ∃ (z_1 : Trie), okTr m' z_1 /\ z.ar.length = z_1.ar.length /\ z.fr.length = z_1.fr.length /\ z.n = z_1.n /\ z.ar = z_1.ar /\ z.fr = z_1.fr /\ ∃ (y : Unit), True /\ ((x.1.longest
 x.2).getLastD zR).1 = ((x'.1.longest x'.2).getLastD zR).1 /\ ((x.1.longest x.2).getLastD zR).2.1 = ((x'.1.longest x'.2).getLastD zR).2.1 /\ ((x.1.longest x.2).getLastD zR).2.2.1 = ((x'.1.longest
 x'.2).getLastD zR).2.2.1 /\ ((x.1.longest x.2).getLastD zR).2.2.2.1 = ((x'.1.longest x'.2).getLastD zR).2.2.2.1 /\ ((x.1.longest x.2).getLastD zR).2.2.2.2 = ((x'.1.longest x'.2).getLastD zR).2.2.2.2
 /\ (!(x.1.longest x.2).isEmpty) = !(x'.1.longest x'.2).isEmpty /\ absR trP m' = absR trP x'.1 /\ True
def T_tpget  : Prop :=
 ∀ (x' : TrM × Pf), ((0 : Int) <= (pA x'.2).1 /\ (pA x'.2).1 < (18446744073709551616 : Int)) /\ (0 : Int) <= (pA x'.2).2.1 /\ (pA x'.2).2.1 < (18446744073709551616 : Int) -> ∃ (m : TrM), absR trP m =
 absR trP x'.1 /\ ∀ (z : Trie), okTr m z -> ∃ (x : Trie × Pf), x'.2.1 = x.2.1 /\ x'.2.2.1 = x.2.2.1 /\ x'.2.2.2.1 = x.2.2.2.1 /\ x'.2.2.2.2 = x.2.2.2.2 /\ z.ar.length = x.1.ar.length /\ z.fr.length =
 x.1.fr.length /\ z.n = x.1.n /\ z.ar = x.1.ar /\ z.fr = x.1.fr /\ (H_SpPkt_1 x) /\ ∀ (y : Unit), True -> ∃ (m' : TrM), ∃ (z_1 : Trie), okTr m' z_1 /\ z.ar.length = z_1.ar.length /\ z.fr.length =
 z_1.fr.length /\ z.n = z_1.n /\ z.ar = z_1.ar /\ z.fr = z_1.fr /\ ∃ (y : Unit), True /\ (x.1.at' x.2).ent.getD (0 : Int) = (Option.map (fun (x : Rt) => x.2.2.2.2) (getE x'.1.e x'.2)).getD (0 : Int) /\
 (x.1.at' x.2).ent.isSome = (getE x'.1.e x'.2).isSome /\ absR trP m' = absR trP x'.1 /\ True
def T_tpinside  : Prop :=
 ∀ (x' : TrM × Pf), ((0 : Int) <= (pA x'.2).1 /\ (pA x'.2).1 < (18446744073709551616 : Int)) /\ (0 : Int) <= (pA x'.2).2.1 /\ (pA x'.2).2.1 < (18446744073709551616 : Int) -> ∃ (m : TrM), absR trP m =
 absR trP x'.1 /\ ∀ (z : Trie), okTr m z -> ∃ (x : Trie × Pf), x'.2.1 = x.2.1 /\ x'.2.2.1 = x.2.2.1 /\ x'.2.2.2.1 = x.2.2.2.1 /\ x'.2.2.2.2 = x.2.2.2.2 /\ z.ar.length = x.1.ar.length /\ z.fr.length =
 x.1.fr.length /\ z.n = x.1.n /\ z.ar = x.1.ar /\ z.fr = x.1.fr /\ (H_SpPkt_1 x) /\ ∀ (y : Unit), True -> ∃ (m' : TrM), ∃ (z_1 : Trie), okTr m' z_1 /\ z.ar.length = z_1.ar.length /\ z.fr.length =
 z_1.fr.length /\ z.n = z_1.n /\ z.ar = z_1.ar /\ z.fr = z_1.fr /\ ∃ (y : Unit), True /\ kids (x.1.at' x.2) = insideE x'.1.e x'.2 /\ absR trP m' = absR trP x'.1 /\ True
def T_tplen  : Prop :=
 ∀ (x' : TrM), True -> ∃ (m : TrM), absR trP m = absR trP x' /\ ∀ (z : Trie), okTr m z -> ∃ (x : Trie), z.ar.length = x.ar.length /\ z.fr.length = x.fr.length /\ z.n = x.n /\ z.ar = x.ar /\ z.fr = x.fr
 /\ TR x.ar x.fr x.t0 x.t1 /\ ∀ (y : Unit), True -> ∃ (m' : TrM), ∃ (z_1 : Trie), okTr m' z_1 /\ z.ar.length = z_1.ar.length /\ z.fr.length = z_1.fr.length /\ z.n = z_1.n /\ z.ar = z_1.ar /\ z.fr =
 z_1.fr /\ ∃ (y : Unit), True /\ x.n = (↑x'.e.length : Int) /\ absR trP m' = absR trP x' /\ True
def T_tpput  : Prop :=
 ∀ (x' : TrM × Pf × Int), (((0 : Int) <= (pA x'.2.1).1 /\ (pA x'.2.1).1 < (18446744073709551616 : Int)) /\ (0 : Int) <= (pA x'.2.1).2.1 /\ (pA x'.2.1).2.1 < (18446744073709551616 : Int)) /\ x'.1.k <=
 (7000 : Nat) -> ∃ (m : TrM), absR trP m = absR trP x'.1 /\ ∀ (z : Trie), okTr m z -> ∃ (x : Trie × Pf × Int), x'.2.1.1 = x.2.1.1 /\ x'.2.1.2.1 = x.2.1.2.1 /\ x'.2.1.2.2.1 = x.2.1.2.2.1 /\ x'.2.1.2.2.2
 = x.2.1.2.2.2 /\ x'.2.2 = x.2.2 /\ z.ar.length = x.1.ar.length /\ z.fr.length = x.1.fr.length /\ z.n = x.1.n /\ z.ar = x.1.ar /\ z.fr = x.1.fr /\ ((TR x.1.ar x.1.fr x.1.t0 x.1.t1 /\ x.1.ar.length <=
 (1000000 : Nat) /\ x.1.fr.length <= (1000000 : Nat) /\ (0 : Int) <= x.1.n /\ x.1.n <= (1000000 : Int)) /\ ((0 : Int) <= (pA x.2.1).1 /\ (pA x.2.1).1 < (18446744073709551616 : Int)) /\ (0 : Int) <= (pA
 x.2.1).2.1 /\ (pA x.2.1).2.1 < (18446744073709551616 : Int)) /\ ∀ (y : Trie), (ifB (saneP x.2.1) (PutP x.1 x.2.1 x.2.2 y) (y = x.1)) -> ∃ (m' : TrM), ∃ (z : Trie), okTr m' z /\ y.ar.length =
 z.ar.length /\ y.fr.length = z.fr.length /\ y.n = z.n /\ y.ar = z.ar /\ y.fr = z.fr /\ ∃ (y : Unit), True /\ ((if saneP x.2.1 = true then (0 : Int) else (1 : Int)) = if saneP x'.2.1 = true then (0 :
 Int) else (1 : Int)) /\ absR trP m' = absR trP (x'.1.put x'.2.1 x'.2.2) /\ True
def T_tpdel  : Prop :=
 ∀ (x' : TrM × Pf), (((0 : Int) <= (pA x'.2).1 /\ (pA x'.2).1 < (18446744073709551616 : Int)) /\ (0 : Int) <= (pA x'.2).2.1 /\ (pA x'.2).2.1 < (18446744073709551616 : Int)) /\ x'.1.k <= (7000 : Nat) ->
 ∃ (m : TrM), absR trP m = absR trP x'.1 /\ ∀ (z : Trie), okTr m z -> ∃ (x : Trie × Pf), x'.2.1 = x.2.1 /\ x'.2.2.1 = x.2.2.1 /\ x'.2.2.2.1 = x.2.2.2.1 /\ x'.2.2.2.2 = x.2.2.2.2 /\ z.ar.length =
 x.1.ar.length /\ z.fr.length = x.1.fr.length /\ z.n = x.1.n /\ z.ar = x.1.ar /\ z.fr = x.1.fr /\ ((TR x.1.ar x.1.fr x.1.t0 x.1.t1 /\ x.1.ar.length <= (1000000 : Nat) /\ x.1.fr.length <= (1000000 :
 Nat) /\ (0 : Int) <= x.1.n /\ x.1.n <= (1000000 : Int)) /\ ((0 : Int) <= (pA x.2).1 /\ (pA x.2).1 < (18446744073709551616 : Int)) /\ (0 : Int) <= (pA x.2).2.1 /\ (pA x.2).2.1 < (18446744073709551616 :
 Int)) /\ ∀ (y : Trie), (ifB (saneP x.2) (DelP x.1 x.2 y) (y = x.1)) -> ∃ (m' : TrM), ∃ (z : Trie), okTr m' z /\ y.ar.length = z.ar.length /\ y.fr.length = z.fr.length /\ y.n = z.n /\ y.ar = z.ar /\
 y.fr = z.fr /\ ∃ (y : Unit), True /\ ((if saneP x.2 = true then if (x.1.get x.2.2.2.1 (bitsP x.2)).isSome = true then (0 : Int) else (2 : Int) else (1 : Int)) = if saneP x'.2 = true then if (getE
 x'.1.e x'.2).isSome = true then (0 : Int) else (2 : Int) else (1 : Int)) /\ absR trP m' = absR trP (x'.1.del x'.2) /\ True
def T_optouch  : Prop :=
 ∀ (x' : RcM × Int), True -> ∃ (m : List Int × Nat), absR rcP m = absR rcP x'.1 /\ ∀ (z : Rc), okO z /\ z.o = m.1 /\ z.is.length = m.2 -> ∃ (x : Rc × Int), x'.2 = x.2 /\ z.ln.length = x.1.ln.length /\
 z.is.length = x.1.is.length /\ (↑z.o.length : Int) = (↑x.1.o.length : Int) /\ z.ln = x.1.ln /\ z.is = x.1.is /\ okO x.1 /\ ∀ (y : Rc), SetO x.1 (if inO x.1 x.2 = true then x.2 :: x.1.o.erase x.2 else
 x.1.o) y -> ∃ (m' : List Int × Nat), ∃ (z : Rc), (okO z /\ z.o = m'.1 /\ z.is.length = m'.2) /\ y.ln.length = z.ln.length /\ y.is.length = z.is.length /\ (↑y.o.length : Int) = (↑z.o.length : Int) /\
 y.ln = z.ln /\ y.is = z.is /\ ∃ (y : Unit), True /\ inO x.1 x.2 = x'.1.in' x'.2 /\ absR rcP m' = absR rcP (if x'.1.in' x'.2 = true then (x'.2 :: x'.1.1.erase x'.2, x'.1.2) else x'.1) /\ True
def T_opdrop  : Prop :=
 ∀ (x' : RcM × Int), True -> ∃ (m : List Int × Nat), absR rcP m = absR rcP x'.1 /\ ∀ (z : Rc), okO z /\ z.o = m.1 /\ z.is.length = m.2 -> ∃ (x : Rc × Int), x'.2 = x.2 /\ z.ln.length = x.1.ln.length /\
 z.is.length = x.1.is.length /\ (↑z.o.length : Int) = (↑x.1.o.length : Int) /\ z.ln = x.1.ln /\ z.is = x.1.is /\ okO x.1 /\ ∀ (y : Rc), SetO x.1 (x.1.o.erase x.2) y -> ∃ (m' : List Int × Nat), ∃ (z :
 Rc), (okO z /\ z.o = m'.1 /\ z.is.length = m'.2) /\ y.ln.length = z.ln.length /\ y.is.length = z.is.length /\ (↑y.o.length : Int) = (↑z.o.length : Int) /\ y.ln = z.ln /\ y.is = z.is /\ ∃ (y : Unit),
 True /\ decide (x.2 ∈ x.1.o) = decide (x'.2 ∈ x'.1.1) /\ absR rcP m' = absR rcP (x'.1.1.erase x'.2, x'.1.2) /\ True
def T_oplen  : Prop :=
 ∀ (x' : List Int × Nat), True -> ∃ (m : List Int × Nat), absR rcP m = absR rcP x' /\ ∀ (z : Rc), okO z /\ z.o = m.1 /\ z.is.length = m.2 -> ∃ (x : Rc), z.ln.length = x.ln.length /\ z.is.length =
 x.is.length /\ (↑z.o.length : Int) = (↑x.o.length : Int) /\ z.ln = x.ln /\ z.is = x.is /\ okO x /\ ∀ (y : Unit), True -> ∃ (m' : List Int × Nat), ∃ (z_1 : Rc), (okO z_1 /\ z_1.o = m'.1 /\
 z_1.is.length = m'.2) /\ z.ln.length = z_1.ln.length /\ z.is.length = z_1.is.length /\ (↑z.o.length : Int) = (↑z_1.o.length : Int) /\ z.ln = z_1.ln /\ z.is = z_1.is /\ ∃ (y : Unit), True /\
 (↑x.o.length : Int) = (↑x'.1.length : Int) /\ absR rcP m' = absR rcP x' /\ True
def T_oporder  : Prop :=
 ∀ (x' : List Int × Nat), True -> ∃ (m : List Int × Nat), absR rcP m = absR rcP x' /\ ∀ (z : Rc), okO z /\ z.o = m.1 /\ z.is.length = m.2 -> ∃ (x : Rc), z.ln.length = x.ln.length /\ z.is.length =
 x.is.length /\ (↑z.o.length : Int) = (↑x.o.length : Int) /\ z.ln = x.ln /\ z.is = x.is /\ okO x /\ ∀ (y : Unit), True -> ∃ (m' : List Int × Nat), ∃ (z_1 : Rc), (okO z_1 /\ z_1.o = m'.1 /\
 z_1.is.length = m'.2) /\ z.ln.length = z_1.ln.length /\ z.is.length = z_1.is.length /\ (↑z.o.length : Int) = (↑z_1.o.length : Int) /\ z.ln = z_1.ln /\ z.is = z_1.is /\ ∃ (y : Unit), True /\ x.o.length
 = x'.1.length /\ absR rcP m' = absR rcP x' /\ x.o = x'.1 /\ True
def T_opnew  : Prop :=
 ∀ (x' : Int), True -> ∃ (x : Int), x' = x /\ True /\ ∀ (y : Rc), okO y /\ y.o = [] /\ (↑y.is.length : Int) = max (0 : Int) (min x (1024 : Int)) -> ∃ (m' : List Int × Nat), ∃ (z : Rc), (okO z /\ z.o =
 m'.1 /\ z.is.length = m'.2) /\ y.ln.length = z.ln.length /\ y.is.length = z.is.length /\ (↑y.o.length : Int) = (↑z.o.length : Int) /\ y.ln = z.ln /\ y.is = z.is /\ ∃ (y : Unit), True /\ absR rcP m' =
 absR rcP ([], (max (0 : Int) (min x' (1024 : Int))).toNat) /\ True
def T_sptake  : Prop :=
 ∀ (x' : SlM × Rt), True -> ∃ (m : SlM), absR slP m = absR slP x'.1 /\ ∀ (z : Sl), Sp.okSl z /\ m = SlM.mk z.at z.n z.most -> ∃ (x : Sl × Rt), x'.2.1 = x.2.1 /\ x'.2.2.1 = x.2.2.1 /\ x'.2.2.2.1 =
 x.2.2.2.1 /\ x'.2.2.2.2.1 = x.2.2.2.2.1 /\ x'.2.2.2.2.2 = x.2.2.2.2.2 /\ z.l.length = x.1.l.length /\ z.most = x.1.most /\ z.free = x.1.free /\ z.n = x.1.n /\ z.l = x.1.l /\ Sp.okSl x.1 /\ ∀ (y : Int
 × Sl), (ifB (decide (x.1.n < x.1.most)) (TakeP x.1 x.2 y) (y = ((0 : Int), x.1))) -> ∃ (m' : SlM), ∃ (z : Sl), (Sp.okSl z /\ m' = SlM.mk z.at z.n z.most) /\ y.2.l.length = z.l.length /\ y.2.most =
 z.most /\ y.2.free = z.free /\ y.2.n = z.n /\ y.2.l = z.l /\ ∃ (y_1 : Int), ((x'.1.n < x'.1.most -> x'.1.pl y_1 = none /\ (0 : Int) <= y_1 /\ y_1 < x'.1.most) /\ (¬x'.1.n < x'.1.most -> y_1 = (0 :
 Int))) /\ y.1 = y_1 /\ decide (x.1.n < x.1.most) = decide (x'.1.n < x'.1.most) /\ absR slP m' = absR slP (if x'.1.n < x'.1.most then SlM.mk (updF x'.1.pl y_1 (some x'.2)) (x'.1.n + (1 : Int))
 x'.1.most else x'.1) /\ True
def T_spgive  : Prop :=
 ∀ (x' : SlM × Int), True -> ∃ (m : SlM), absR slP m = absR slP x'.1 /\ ∀ (z : Sl), Sp.okSl z /\ m = SlM.mk z.at z.n z.most -> ∃ (x : Sl × Int), x'.2 = x.2 /\ z.l.length = x.1.l.length /\ z.most =
 x.1.most /\ z.free = x.1.free /\ z.n = x.1.n /\ z.l = x.1.l /\ Sp.okSl x.1 /\ ∀ (y : Sl), GiveP x.1 x.2 y -> ∃ (m' : SlM), ∃ (z : Sl), (Sp.okSl z /\ m' = SlM.mk z.at z.n z.most) /\ y.l.length =
 z.l.length /\ y.most = z.most /\ y.free = z.free /\ y.n = z.n /\ y.l = z.l /\ ∃ (y : Unit), True /\ (x.1.at x.2).isSome = (x'.1.pl x'.2).isSome /\ absR slP m' = absR slP (SlM.mk (updF x'.1.pl x'.2
 none) (if (x'.1.pl x'.2).isSome = true then x'.1.n - (1 : Int) else x'.1.n) x'.1.most) /\ True
def T_spat  : Prop :=
 ∀ (x' : SlM × Int), True -> ∃ (m : SlM), absR slP m = absR slP x'.1 /\ ∀ (z : Sl), Sp.okSl z /\ m = SlM.mk z.at z.n z.most -> ∃ (x : Sl × Int), x'.2 = x.2 /\ z.l.length = x.1.l.length /\ z.most =
 x.1.most /\ z.free = x.1.free /\ z.n = x.1.n /\ z.l = x.1.l /\ Sp.okSl x.1 /\ ∀ (y : Unit), True -> ∃ (m' : SlM), ∃ (z_1 : Sl), (Sp.okSl z_1 /\ m' = SlM.mk z_1.at z_1.n z_1.most) /\ z.l.length =
 z_1.l.length /\ z.most = z_1.most /\ z.free = z_1.free /\ z.n = z_1.n /\ z.l = z_1.l /\ ∃ (y : Unit), True /\ ((x.1.at x.2).getD zRt).1 = ((x'.1.pl x'.2).getD zRt).1 /\ ((x.1.at x.2).getD zRt).2.1 =
 ((x'.1.pl x'.2).getD zRt).2.1 /\ ((x.1.at x.2).getD zRt).2.2.1 = ((x'.1.pl x'.2).getD zRt).2.2.1 /\ ((x.1.at x.2).getD zRt).2.2.2.1 = ((x'.1.pl x'.2).getD zRt).2.2.2.1 /\ ((x.1.at x.2).getD
 zRt).2.2.2.2 = ((x'.1.pl x'.2).getD zRt).2.2.2.2 /\ (x.1.at x.2).isSome = (x'.1.pl x'.2).isSome /\ absR slP m' = absR slP x'.1 /\ True
def T_splen  : Prop :=
 ∀ (x' : SlM), True -> ∃ (m : SlM), absR slP m = absR slP x' /\ ∀ (z : Sl), Sp.okSl z /\ m = SlM.mk z.at z.n z.most -> ∃ (x : Sl), z.l.length = x.l.length /\ z.most = x.most /\ z.free = x.free /\ z.n =
 x.n /\ z.l = x.l /\ Sp.okSl x /\ ∀ (y : Unit), True -> ∃ (m' : SlM), ∃ (z_1 : Sl), (Sp.okSl z_1 /\ m' = SlM.mk z_1.at z_1.n z_1.most) /\ z.l.length = z_1.l.length /\ z.most = z_1.most /\ z.free =
 z_1.free /\ z.n = z_1.n /\ z.l = z_1.l /\ ∃ (y : Unit), True /\ x.n = x'.n /\ absR slP m' = absR slP x' /\ True
def T_spcap  : Prop :=
 ∀ (x' : SlM), True -> ∃ (m : SlM), absR slP m = absR slP x' /\ ∀ (z : Sl), Sp.okSl z /\ m = SlM.mk z.at z.n z.most -> ∃ (x : Sl), z.l.length = x.l.length /\ z.most = x.most /\ z.free = x.free /\ z.n =
 x.n /\ z.l = x.l /\ Sp.okSl x /\ ∀ (y : Unit), True -> ∃ (m' : SlM), ∃ (z_1 : Sl), (Sp.okSl z_1 /\ m' = SlM.mk z_1.at z_1.n z_1.most) /\ z.l.length = z_1.l.length /\ z.most = z_1.most /\ z.free =
 z_1.free /\ z.n = z_1.n /\ z.l = z_1.l /\ ∃ (y : Unit), True /\ x.most = x'.most /\ absR slP m' = absR slP x' /\ True
def T_spnew  : Prop :=
 ∀ (x' : Int), True -> ∃ (x : Int), x' = x /\ True /\ ∀ (y : Unit), True -> ∃ (m' : SlM), ∃ (z : Sl), (Sp.okSl z /\ m' = SlM.mk z.at z.n z.most) /\ (Sl.mk [] (max (0 : Int) (min x (1024 : Int))) (-1 :
 Int) (0 : Int)).l.length = z.l.length /\ (Sl.mk [] (max (0 : Int) (min x (1024 : Int))) (-1 : Int) (0 : Int)).most = z.most /\ (Sl.mk [] (max (0 : Int) (min x (1024 : Int))) (-1 : Int) (0 : Int)).free
 = z.free /\ (Sl.mk [] (max (0 : Int) (min x (1024 : Int))) (-1 : Int) (0 : Int)).n = z.n /\ (Sl.mk [] (max (0 : Int) (min x (1024 : Int))) (-1 : Int) (0 : Int)).l = z.l /\ ∃ (y : Unit), True /\ absR
 slP m' = absR slP (SlM.mk (fun (x : Int) => none) (0 : Int) (max (0 : Int) (min x' (1024 : Int)))) /\ True
def T_kpadd  : Prop :=
 ∀ (x' : Sk × Pf), ((0 : Int) <= (pA x'.2).1 /\ (pA x'.2).1 < (18446744073709551616 : Int)) /\ (0 : Int) <= (pA x'.2).2.1 /\ (pA x'.2).2.1 < (18446744073709551616 : Int) -> ∃ (m : List Int × Int), absR
 skP m = absR skP x'.1 /\ ∀ (z : List Int × Int), z = m /\ okK m -> ∃ (x : Sk × Pf), x'.2.1 = x.2.1 /\ x'.2.2.1 = x.2.2.1 /\ x'.2.2.2.1 = x.2.2.2.1 /\ x'.2.2.2.2 = x.2.2.2.2 /\ z.1.length =
 x.1.1.length /\ z.2 = x.1.2 /\ z.1 = x.1.1 /\ (H_SpPkt_2 x) /\ ∀ (y : Unit), True -> ∃ (m' : List Int × Int), ∃ (z_1 : List Int × Int), (z_1 = m' /\ okK m') /\ z.1.length = z_1.1.length /\ z.2 = z_1.2
 /\ (addK x.1 x.2).1 = z_1.1 /\ ∃ (y : Unit), True /\ saneP x.2 = saneP x'.2 /\ absR skP m' = absR skP (addK x'.1 x'.2) /\ True
def T_kpcount  : Prop :=
 ∀ (x' : Sk × Pf), ((0 : Int) <= (pA x'.2).1 /\ (pA x'.2).1 < (18446744073709551616 : Int)) /\ (0 : Int) <= (pA x'.2).2.1 /\ (pA x'.2).2.1 < (18446744073709551616 : Int) -> ∃ (m : List Int × Int), absR
 skP m = absR skP x'.1 /\ ∀ (z : List Int × Int), z = m /\ okK m -> ∃ (x : Sk × Pf), x'.2.1 = x.2.1 /\ x'.2.2.1 = x.2.2.1 /\ x'.2.2.2.1 = x.2.2.2.1 /\ x'.2.2.2.2 = x.2.2.2.2 /\ z.1.length =
 x.1.1.length /\ z.2 = x.1.2 /\ z.1 = x.1.1 /\ (H_SpPkt_2 x) /\ ∀ (y : Unit), True -> ∃ (m' : List Int × Int), ∃ (z_1 : List Int × Int), (z_1 = m' /\ okK m') /\ z.1.length = z_1.1.length /\ z.2 = z_1.2
 /\ z.1 = z_1.1 /\ ∃ (y : Unit), True /\ countK x.1 x.2 = countK x'.1 x'.2 /\ absR skP m' = absR skP x'.1 /\ True
def T_kpdecay  : Prop :=
 ∀ (x' : List Int × Int), True -> ∃ (m : List Int × Int), absR skP m = absR skP x' /\ ∀ (z : List Int × Int), z = m /\ okK m -> ∃ (x : List Int × Int), z.1.length = x.1.length /\ z.2 = x.2 /\ z.1 = x.1
 /\ okK x /\ ∀ (y : Unit), True -> ∃ (m' : List Int × Int), ∃ (z_1 : List Int × Int), (z_1 = m' /\ okK m') /\ z.1.length = z_1.1.length /\ z.2 = z_1.2 /\ (decK x).1 = z_1.1 /\ ∃ (y : Unit), True /\
 absR skP m' = absR skP (decK x') /\ True
def T_kpnew  : Prop :=
 ∀ (x' : Int × Int), True -> ∃ (x : Int × Int), x'.1 = x.1 /\ x'.2 = x.2 /\ True /\ ∀ (y : Unit), True -> ∃ (m' : List Int × Int), ∃ (z : List Int × Int), (z = m' /\ okK m') /\ (newK x.1 x.2).1.length
 = z.1.length /\ (newK x.1 x.2).2 = z.2 /\ (newK x.1 x.2).1 = z.1 /\ ∃ (y : Unit), True /\ absR skP m' = absR skP (newK x'.1 x'.2) /\ True
theorem o_tnew : owes Tryz.prog (tab T4) LqN 1 82 Tryz.f82 NewT = T_tnew := by kernel_rfl
theorem o_tpnew : wrapsN trP 0 NewT NewTP = T_tpnew := by kernel_rfl
theorem o_tpabove : wraps trP AboveT AboveTP = T_tpabove := by kernel_rfl
theorem o_tpunder : wraps trP UnderT UnderTP = T_tpunder := by kernel_rfl
theorem o_tplongest : wraps trP LongestT LongestTP = T_tplongest := by kernel_rfl
theorem o_tpget : wraps trP GetT GetTP = T_tpget := by kernel_rfl
theorem o_tpinside : wraps trP InsideT InsideTP = T_tpinside := by kernel_rfl
theorem o_tplen : wraps trP LenT LenTP = T_tplen := by kernel_rfl
theorem o_tpput : wraps trP PutT PutTP = T_tpput := by kernel_rfl
theorem o_tpdel : wraps trP DelT DelTP = T_tpdel := by kernel_rfl
theorem o_optouch : wraps rcP TouchO TouchOP = T_optouch := by kernel_rfl
theorem o_opdrop : wraps rcP DropO DropOP = T_opdrop := by kernel_rfl
theorem o_oplen : wraps rcP LenO LenOP = T_oplen := by kernel_rfl
theorem o_oporder : wraps rcP OrderO OrderOP = T_oporder := by kernel_rfl
theorem o_opnew : wrapsN rcP 0 NewO NewOP = T_opnew := by kernel_rfl
theorem o_sptake : wraps slP TakeSl TakeSP = T_sptake := by kernel_rfl
theorem o_spgive : wraps slP GiveSl GiveSP = T_spgive := by kernel_rfl
theorem o_spat : wraps slP AtSl AtSP = T_spat := by kernel_rfl
theorem o_splen : wraps slP LenSl LenSP = T_splen := by kernel_rfl
theorem o_spcap : wraps slP CapSl CapSP = T_spcap := by kernel_rfl
theorem o_spnew : wrapsN slP 0 NewSl NewSP = T_spnew := by kernel_rfl
theorem o_kpadd : wraps skP AddS AddKP = T_kpadd := by kernel_rfl
theorem o_kpcount : wraps skP CountS CountKP = T_kpcount := by kernel_rfl
theorem o_kpdecay : wraps skP DecayS DecayKP = T_kpdecay := by kernel_rfl
theorem o_kpnew : wrapsN skP 0 NewS NewKP = T_kpnew := by kernel_rfl
end Sp
end
