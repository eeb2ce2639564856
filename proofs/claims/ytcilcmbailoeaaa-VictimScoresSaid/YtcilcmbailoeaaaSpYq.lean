/- Contracts kept: two stretches in order made one, in whole. -/
import Derived.Test.YtcilcmbailoeaaaSpYp
set_option linter.all false
set_option maxRecDepth 10000
namespace Sp
open Go Go.Proofs Sx Go.Proofs.Ytcilcmbailoeaaa.Ma
theorem up_step (xs : List En) {a k : Nat} (hk : a ≤ k) (hl : k + 1 < xs.length) :
    ((rotL xs a (a + 1) (k + 1)).set k ((rotL xs a (a + 1) (k + 1)).getD (k + 1) (0, 0))).set (k + 1) ((rotL xs a (a + 1) (k + 1)).getD k (0, 0)) = rotL xs a (a + 1) (k + 2) := by
  have hL := rotL_length xs (a := a) (m := a + 1) (b := k + 1) (by omega) (by omega) (by omega)
  have g := rotL_get xs (a := a) (m := a + 1) (b := k + 1) (by omega) (by omega) (by omega)
  have e1 := getD_some (l := rotL xs a (a + 1) (k + 1)) (i := k + 1) (0, 0) (by omega)
  have e2 := getD_some (l := rotL xs a (a + 1) (k + 1)) (i := k) (0, 0) (by omega)
  apply List.ext_getElem?
  intro j
  rw [List.getElem?_set, List.getElem?_set, rotL_get xs (a := a) (m := a + 1) (b := k + 2) (by omega) (by omega) (by omega) j]
  by_cases c1 : k + 1 = j
  · subst c1
    rw [if_pos rfl, if_pos (by rw [List.length_set]; omega), ← e2, g, if_neg (by omega), if_neg (by omega), if_pos (by omega), if_neg (by omega), if_neg (by omega), if_pos (by omega)]
    congr 1
    omega
  rw [if_neg c1]
  by_cases c2 : k = j
  · subst c2
    rw [if_pos rfl, if_pos (by omega), ← e1, g, if_neg (by omega), if_neg (by omega), if_neg (by omega), if_neg (by omega), if_pos (by omega)]
    congr 1
    omega
  rw [if_neg c2, g j]
  repeat' split
  all_goals first | rfl | omega
theorem down_step (xs : List En) {m k : Nat} (hk : k + 1 ≤ m) (hl : m < xs.length) :
    ((rotL xs (k + 1) m (m + 1)).set (k + 1) ((rotL xs (k + 1) m (m + 1)).getD k (0, 0))).set k ((rotL xs (k + 1) m (m + 1)).getD (k + 1) (0, 0)) = rotL xs k m (m + 1) := by
  have hL := rotL_length xs (a := k + 1) (m := m) (b := m + 1) (by omega) (by omega) (by omega)
  have g := rotL_get xs (a := k + 1) (m := m) (b := m + 1) (by omega) (by omega) (by omega)
  have e1 := getD_some (l := rotL xs (k + 1) m (m + 1)) (i := k + 1) (0, 0) (by omega)
  have e2 := getD_some (l := rotL xs (k + 1) m (m + 1)) (i := k) (0, 0) (by omega)
  apply List.ext_getElem?
  intro j
  rw [List.getElem?_set, List.getElem?_set, rotL_get xs (a := k) (m := m) (b := m + 1) (by omega) (by omega) (by omega) j]
  by_cases c1 : k = j
  · subst c1
    rw [if_pos rfl, if_pos (by rw [List.length_set]; omega), ← e1, g, if_neg (by omega), if_pos (by omega), if_neg (by omega), if_pos (by omega)]
    congr 1
    omega
  rw [if_neg c1]
  by_cases c2 : k + 1 = j
  · subst c2
    rw [if_pos rfl, if_pos (by omega), ← e2, g, if_pos (by omega), if_neg (by omega), if_neg (by omega), if_pos (by omega)]
    congr 1
    omega
  rw [if_neg c2, g j]
  repeat' split
  all_goals first | rfl | omega
theorem one_left {key : En → Int} {xs : List En} {a b i : Nat} (h1 : a + 1 ≤ i) (h2 : i ≤ b) (hb : b ≤ xs.length) (s2 : SortedK key (mids xs (a + 1) b))
    (hlo : i = a + 1 ∨ key (xs.getD (i - 1) (0, 0)) < key (xs.getD a (0, 0))) (hhi : i = b ∨ key (xs.getD a (0, 0)) ≤ key (xs.getD i (0, 0))) : SSR key a b xs (rotL xs a (a + 1) i) := by
  have s1 : SortedK key (mids xs a (a + 1)) := by
    rw [mids_snoc xs (Nat.le_refl a) (by omega), mids_nil xs (Nat.le_refl a)]
    exact List.pairwise_singleton _ _
  obtain ⟨h, t0, t1, t2, t3⟩ := sym_half (s := a) (m := a + 1) (e := i) (d := a + (i - (a + 1))) (Nat.le_refl a) (by omega) h1 h2 hb rfl s1 s2 (.inl rfl) (by omega)
  refine h.done (by omega) (by omega) t1 ?_
  obtain ⟨g1, g2, g3, g4⟩ := rot_mids xs (Nat.le_refl a) (show a ≤ a + 1 by omega) h1 h2 hb rfl
  rw [mids_app _ (show a + (i - (a + 1)) ≤ i by omega) h2]
  refine sorted_app t2 t3 fun u hu v hv => ?_
  rw [g3] at hu
  rw [g4] at hv
  obtain ⟨p, p1, p2, rfl⟩ := mem_mids (by omega) hu
  obtain ⟨q, q1, q2, rfl⟩ := mem_mids (by omega) hv
  obtain rfl : p = a := by omega
  rcases hhi with h | h
  · omega
  · have := sorted_at hb s2 h1 q1 q2
    omega
theorem one_right {key : En → Int} {xs : List En} {a m i : Nat} (h1 : a ≤ i) (h2 : i ≤ m) (hb : m + 1 ≤ xs.length) (s1 : SortedK key (mids xs a m))
    (hlo : i = a ∨ key (xs.getD (i - 1) (0, 0)) ≤ key (xs.getD m (0, 0))) (hhi : i = m ∨ key (xs.getD m (0, 0)) < key (xs.getD i (0, 0))) : SSR key a (m + 1) xs (rotL xs i m (m + 1)) := by
  have s2 : SortedK key (mids xs m (m + 1)) := by
    rw [mids_snoc xs (Nat.le_refl m) (by omega), mids_nil xs (Nat.le_refl m)]
    exact List.pairwise_singleton _ _
  obtain ⟨h, t0, t1, t2, t3⟩ := sym_half (s := i) (m := m) (e := m + 1) (b := m + 1) (d := i + 1) h1 h2 (by omega) (Nat.le_refl _) hb (by omega) s1 s2 (.inr (.inl rfl)) (by rw [Nat.add_sub_cancel]; omega)
  obtain ⟨g1, g2, g3, g4⟩ := rot_mids (d := i + 1) xs h1 h2 (show m ≤ m + 1 by omega) (Nat.le_refl (m + 1)) hb (by omega)
  refine h.done (by omega) (by omega) ?_ t2
  rw [mids_app _ h1 (show i ≤ i + 1 by omega)]
  refine sorted_app t0 t1 fun u hu v hv => ?_
  rw [g1] at hu
  rw [g2] at hv
  obtain ⟨p, p1, p2, rfl⟩ := mem_mids (by omega) hu
  obtain ⟨q, q1, q2, rfl⟩ := mem_mids (by omega) hv
  obtain rfl : q = m := by omega
  rcases hlo with h | h
  · omega
  · have := sorted_at (by omega) s1 p1 (show p ≤ i - 1 by omega) (by omega)
    omega
theorem p_vsym (key : En → Int) : T_vsym key := by
  rintro n ⟨xs, a, m, b⟩ ⟨h1, h2, h3, h4, h5, s1, s2⟩
  dsimp only at h1 h2 h3 h4 h5 s1 s2 ⊢
  have hl : xs.length ≤ 1000000 := h4
  refine ⟨by omega, ifB_d (fun hm => ?_) fun hm => ⟨by omega, ifB_d (fun hb => ?_) fun hb => ?_⟩⟩
  · obtain rfl : m = a + 1 := by omega
    refine ⟨fun x => (a : Int) + 1 ≤ x.1 ∧ x.1 ≤ x.2 ∧ x.2 ≤ b ∧ (x.1 = a + 1 ∨ key (xs.getD (x.1 - 1).toNat (0, 0)) < key (xs.getD a (0, 0))) ∧ (x.2 = b ∨ key (xs.getD a (0, 0)) ≤ key (xs.getD x.2.toNat (0, 0))),
      fun x => (x.2 - x.1).toNat, ⟨(((a + 1 : Nat) : Int), (b : Int)), ⟨by dsimp only; omega, by dsimp only; omega, by dsimp only; omega, .inl (by dsimp only; omega), .inl rfl⟩, rfl, rfl, trivial⟩, ?_⟩
    rintro ⟨i, j⟩ ⟨i1, i2, i3, i4, i5⟩
    dsimp only at i1 i2 i3 i4 i5 ⊢
    rw [half_eq (by omega) (by omega) (by omega)]
    refine ifB_d (fun h => ⟨by omega, by omega, by omega, by omega, by omega, (_, _), rfl, rfl, rfl, rfl, trivial, fun _ _ => ifB_d (fun hc => ?_) fun hc => ?_⟩) fun h => ?_
    · rw [cmpK_neg] at hc
      refine ⟨by omega, ((i + j) / 2 + 1, j), ⟨by dsimp only; omega, by dsimp only; omega, by dsimp only; omega, .inr ?_, i5⟩, by dsimp only; omega, rfl, rfl, trivial⟩
      dsimp only
      rw [show ((i + j) / 2 + 1 - 1).toNat = ((i + j) / 2).toNat by omega]
      exact hc
    · rw [cmpK_neg] at hc
      exact ⟨(i, (i + j) / 2), ⟨by dsimp only; omega, by dsimp only; omega, by dsimp only; omega, i4, .inr (Int.not_lt.1 hc)⟩, by dsimp only; omega, rfl, rfl, trivial⟩
    · have hij : i = j := by omega
      subst hij
      have key' := one_left (i := i.toNat) (by omega) (by omega) h3 s2 (by
        rcases i4 with h | h
        · exact .inl (by omega)
        · exact .inr (by rw [show (i - 1).toNat = i.toNat - 1 by omega] at h; exact h)) (by
        rcases i5 with h | h
        · exact .inl (by omega)
        · exact .inr h)
      refine ⟨fun x => (a : Int) ≤ x.1 ∧ x.1 ≤ i - 1 ∧ x.2 = rotL xs a (a + 1) (x.1.toNat + 1), fun x => (i - x.1).toNat, ⟨((a : Int), xs), ⟨by dsimp only; omega, by dsimp only; omega, (rotL_triv xs (by omega) (by dsimp only; omega) (.inr (by dsimp only; omega))).symm⟩, rfl, rfl, trivial⟩, ?_⟩
      rintro ⟨k, ys⟩ ⟨k1, k2, k3⟩
      dsimp only at k1 k2 k3 ⊢
      subst k3
      refine ⟨by omega, ifB_d (fun hk => ⟨by omega, by omega, by omega, by omega, by omega, by omega, by omega, (k + 1, rotL xs a (a + 1) (k.toNat + 2)), ⟨by dsimp only; omega, by dsimp only; omega, by dsimp only; congr 1; omega⟩, by dsimp only; omega, rfl, ?_, trivial⟩) fun hk => ⟨_, key', ?_, trivial⟩⟩
      · rw [show (k + 1).toNat = k.toNat + 1 by omega]
        exact up_step xs (by omega) (by omega)
      · rw [show k.toNat + 1 = i.toNat by omega]
  · obtain rfl : b = m + 1 := by omega
    refine ⟨fun x => (a : Int) ≤ x.1 ∧ x.1 ≤ x.2 ∧ x.2 ≤ m ∧ (x.1 = a ∨ key (xs.getD (x.1 - 1).toNat (0, 0)) ≤ key (xs.getD m (0, 0))) ∧ (x.2 = m ∨ key (xs.getD m (0, 0)) < key (xs.getD x.2.toNat (0, 0))),
      fun x => (x.2 - x.1).toNat, ⟨((a : Int), (m : Int)), ⟨by dsimp only; omega, by dsimp only; omega, by dsimp only; omega, .inl rfl, .inl rfl⟩, rfl, rfl, trivial⟩, ?_⟩
    rintro ⟨i, j⟩ ⟨i1, i2, i3, i4, i5⟩
    dsimp only at i1 i2 i3 i4 i5 ⊢
    rw [half_eq (by omega) (by omega) (by omega)]
    refine ifB_d (fun h => ⟨by omega, by omega, by omega, by omega, by omega, (_, _), rfl, rfl, rfl, rfl, trivial, fun _ _ => ifB_nd (fun hc => ?_) fun hc => ?_⟩) fun h => ?_
    · rw [cmpK_nn] at hc
      refine ⟨by omega, ((i + j) / 2 + 1, j), ⟨by dsimp only; omega, by dsimp only; omega, by dsimp only; omega, .inr ?_, i5⟩, by dsimp only; omega, rfl, rfl, trivial⟩
      dsimp only
      rw [show ((i + j) / 2 + 1 - 1).toNat = ((i + j) / 2).toNat by omega]
      exact hc
    · rw [cmpK_neg] at hc
      exact ⟨(i, (i + j) / 2), ⟨by dsimp only; omega, by dsimp only; omega, by dsimp only; omega, i4, .inr hc⟩, by dsimp only; omega, rfl, rfl, trivial⟩
    · have hij : i = j := by omega
      subst hij
      have key' := one_right (i := i.toNat) (by omega) (by omega) h3 s1 (by
        rcases i4 with h | h
        · exact .inl (by omega)
        · exact .inr (by rw [show (i - 1).toNat = i.toNat - 1 by omega] at h; exact h)) (by
        rcases i5 with h | h
        · exact .inl (by omega)
        · exact .inr h)
      refine ⟨fun x => i ≤ x.1 ∧ x.1 ≤ m ∧ x.2 = rotL xs x.1.toNat m (m + 1), fun x => x.1.toNat, ⟨((m : Int), xs), ⟨by dsimp only; omega, by dsimp only; omega, (rotL_triv xs (by dsimp only; omega) (by omega) (.inl (by dsimp only; omega))).symm⟩, rfl, rfl, trivial⟩, ?_⟩
      rintro ⟨k, ys⟩ ⟨k1, k2, k3⟩
      dsimp only at k1 k2 k3 ⊢
      subst k3
      refine ifB_d (fun hk => ⟨by omega, by omega, by omega, by omega, by omega, by omega, by omega, (k - 1, rotL xs (k - 1).toNat m (m + 1)), ⟨by dsimp only; omega, by dsimp only; omega, rfl⟩, by dsimp only; omega, rfl, ?_, trivial⟩) fun hk => ⟨_, key', ?_, trivial⟩
      · dsimp only
        have := down_step xs (m := m) (k := (k - 1).toNat) (by omega) (by omega)
        rw [show (k - 1).toNat + 1 = k.toNat by omega] at this
        exact this
      · rw [show k.toNat = i.toNat by omega]
  · have hmd : ((a : Int) + b) % 18446744073709551616 / 2 = (((a + b) / 2 : Nat) : Int) := by omega
    rw [hmd]
    refine ⟨by omega, by omega, by omega, by omega, ifB_d (fun hd => ?_) fun hd => ?_⟩
    · refine ⟨by omega, by omega, ?_⟩
      have := syS_ok (key := key) (n := n) (xs := xs) (a := a) (m := m) (b := b) (d := (a + b) / 2) (s0 := (a + b) / 2 + m - b) (r0 := (a + b) / 2) (by omega) (by omega) (by omega) (by omega) (by omega) (by omega) (by omega) h3 h4 (by omega) (by omega) s1 s2
      rw [show (((a + b) / 2 + m - b : Nat) : Int) = (((a + b) / 2 : Nat) : Int) + m - b by omega] at this
      exact this
    · refine ⟨by omega, ?_⟩
      exact syS_ok (key := key) (n := n) (xs := xs) (a := a) (m := m) (b := b) (d := (a + b) / 2) (s0 := a) (r0 := m) (by omega) (by omega) (by omega) (by omega) (by omega) (by omega) (by omega) h3 h4 (by omega) (by omega) s1 s2
end Sp
