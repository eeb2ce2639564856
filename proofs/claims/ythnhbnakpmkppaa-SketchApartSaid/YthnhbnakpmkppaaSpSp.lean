/- Contracts kept: rows of counts. -/
import Derived.Test.YthnhbnakpmkppaaSpSt
set_option linter.all false
set_option maxRecDepth 10000
namespace Sp
open Go Go.Proofs Sx Go.Proofs.Ythnhbnakpmkppaa.Ma
theorem hashP_range (row : Int) (p : Pf) : 0 ≤ hashP row p ∧ hashP row p < 18446744073709551616 := by
  have : ∀ (l : List Int) (h : Int), l ≠ [] → 0 ≤ l.foldl hstep h ∧ l.foldl hstep h < 18446744073709551616 := by
    intro l
    induction l with
    | nil => exact fun _ h => absurd rfl h
    | cons a l ih =>
      intro h _
      cases l with
      | nil =>
        rw [List.foldl_cons, List.foldl_nil]
        unfold hstep
        exact ⟨Int.emod_nonneg _ (by decide), Int.emod_lt_of_pos _ (by decide)⟩
      | cons b l =>
        rw [List.foldl_cons]
        exact ih (hstep h a) (List.cons_ne_nil _ _)
  unfold hashP
  exact this (max row 0 % 256 :: putP p) 14695981039346656037 (List.cons_ne_nil _ _)
theorem foldl_take {α : Type} (f : α → Int → α) (l : List Int) (a : α) (n : Nat) (h : n < l.length) : (l.take (n + 1)).foldl f a = f ((l.take n).foldl f a) (l.getD n 0) := by
  rw [List.take_succ, List.foldl_append, List.getD_eq_getElem?_getD, List.getElem?_eq_getElem h]
  rfl
theorem p_hash : T_hash := by
  rintro ⟨row, p⟩ hw
  dsimp only at hw ⊢
  refine ⟨([], p), rfl, rfl, rfl, rfl, rfl, rfl, ⟨Nat.zero_le _, hw⟩, fun _ _ => ⟨by omega, fun x => 0 ≤ x.1 ∧ x.1 ≤ 1 ∧ x.2 = (([max row 0 % 256] : List Int).take x.1.toNat).foldl hstep 14695981039346656037, fun x => (1 - x.1).toNat, ⟨(0, 14695981039346656037), ⟨by omega, by omega, rfl⟩, rfl, rfl, trivial⟩, ?_⟩⟩
  rintro ⟨k, h⟩ ⟨k0, k1, hh⟩
  dsimp only at k0 k1 hh ⊢
  refine ifB_d (fun hk => ⟨by omega, by omega, (k + 1, hstep h (([max row 0 % 256] : List Int).getD k.toNat 0)), ⟨by omega, by omega, ?_⟩, by simp only; omega, rfl, rfl, trivial⟩) fun hk => ⟨by omega, by omega, ?_⟩
  · dsimp only
    rw [show (k + 1).toNat = k.toNat + 1 by omega, foldl_take _ _ _ _ (by simp only [List.length_singleton]; omega), hh]
  obtain rfl : k = 1 := by omega
  refine ⟨fun x => 0 ≤ x.1 ∧ x.1 ≤ (putP p).length ∧ x.2 = ((putP p).take x.1.toNat).foldl hstep h, fun x => ((putP p).length - x.1).toNat, ⟨(0, h), ⟨by omega, by omega, rfl⟩, rfl, rfl, trivial⟩, ?_⟩
  rintro ⟨j, g⟩ ⟨j0, j1, hg⟩
  dsimp only at j0 j1 hg ⊢
  rw [List.nil_append]
  have hlen : (putP p).length ≤ 1000 := by
    cases hs : saneP p with
    | false => unfold putP; rw [hs, if_neg (by decide)]; decide
    | true =>
      have := putP_length hs
      obtain ⟨_, n0, n1⟩ := sane_iff.1 hs
      have := wd_le p.2.2.1
      unfold longZ at this
      unfold longZ at *
      omega
  refine ifB_d (fun hk => ⟨by omega, by omega, (j + 1, hstep g ((putP p).getD j.toNat 0)), ⟨by omega, by omega, ?_⟩, by simp only; omega, rfl, rfl, trivial⟩) fun hk => ⟨by omega, (), trivial, ?_, trivial⟩
  · dsimp only
    rw [show (j + 1).toNat = j.toNat + 1 by omega, foldl_take _ _ _ _ (by omega), hg]
  · rw [hg, List.take_of_length_le (by omega), hh]
    rfl
theorem newK_len (r w : Int) : 1 ≤ rowsN r ∧ rowsN r ≤ 4 ∧ 1 ≤ widN w ∧ widN w ≤ 256 ∧ ((newK r w).1.length : Int) = rowsN r * widN w := by
  have h1 : 1 ≤ rowsN r ∧ rowsN r ≤ 4 := by unfold rowsN; omega
  have h2 : 1 ≤ widN w ∧ widN w ≤ 256 := by unfold widN; omega
  have : 0 ≤ rowsN r * widN w := Int.mul_nonneg (by omega) (by omega)
  refine ⟨h1.1, h1.2, h2.1, h2.2, ?_⟩
  unfold newK
  rw [List.length_replicate]
  omega
theorem mul_le4 {r w : Int} (h1 : 1 ≤ r) (h2 : r ≤ 4) (h3 : 1 ≤ w) (h4 : w ≤ 256) : 1 ≤ r * w ∧ r * w ≤ 1024 := by
  have a : r * w ≤ 4 * w := Int.mul_le_mul_of_nonneg_right h2 (by omega)
  have b : 1 * w ≤ r * w := Int.mul_le_mul_of_nonneg_right h1 (by omega)
  omega
theorem okK_new (r w : Int) : okK (newK r w) := by
  obtain ⟨a, b, c, d, e⟩ := newK_len r w
  refine ⟨⟨c, d⟩, ⟨(rowsN r).toNat, by omega, by omega, ?_⟩, ?_⟩
  · rw [e, show (((rowsN r).toNat : Nat) : Int) = rowsN r by omega]
    rfl
  · intro x hx
    obtain rfl := (List.mem_replicate.1 hx).2
    omega
theorem p_snew : T_snew := by
  rintro ⟨r, w⟩ _
  dsimp only
  obtain ⟨a, b, c, d, e⟩ := newK_len r w
  have f := mul_le4 a b c d
  change (-9223372036854775808 ≤ rowsN r * widN w ∧ rowsN r * widN w ≤ 9223372036854775807) ∧ (0 ≤ rowsN r * widN w ∧ rowsN r * widN w ≤ rowsN r * widN w ∧ rowsN r * widN w ≤ 140737488355328 ∧ rowsN r * widN w * 1 ≤ 140737488355328) ∧ _
  refine ⟨by omega, by omega, (), trivial, ?_, rfl, rfl, trivial⟩
  have := e
  show (rowsN r * widN w).toNat = _
  omega
theorem okK.rows {s : Sk} (h : okK s) : ∃ r : Nat, rowsK s = r ∧ 1 ≤ r ∧ r ≤ 4 ∧ (s.1.length : Int) = r * s.2 := by
  obtain ⟨r, r1, r2, hl⟩ := h.l
  refine ⟨r, ?_, r1, r2, hl⟩
  unfold rowsK
  rw [hl, Int.mul_ediv_cancel _ (by have := h.w; omega)]
  rfl
theorem okK.pos {s : Sk} (h : okK s) {k : Nat} (hk : k < rowsK s) (p : Pf) : 0 ≤ (k : Int) * s.2 ∧ (k : Int) * s.2 ≤ 1024 ∧ 0 ≤ hashP k p % s.2 ∧ hashP k p % s.2 < 256 ∧ (k : Int) * s.2 + hashP k p % s.2 < s.1.length ∧ ((posK s p k : Nat) : Int) = k * s.2 + hashP k p % s.2 := by
  obtain ⟨r, hr, r1, r2, hl⟩ := h.rows
  have hw := h.w
  have hh := hashP_range k p
  have m0 := Int.emod_nonneg (hashP k p) (show s.2 ≠ 0 by omega)
  have m1 := Int.emod_lt_of_pos (hashP k p) (show 0 < s.2 by omega)
  have a : 0 ≤ (k : Int) * s.2 := Int.mul_nonneg (by omega) (by omega)
  have b : ((k : Int) + 1) * s.2 ≤ r * s.2 := Int.mul_le_mul_of_nonneg_right (by omega) (by omega)
  rw [Int.add_mul, Int.one_mul] at b
  have c : (r : Int) * s.2 ≤ 1024 := (mul_le4 (by omega) (by omega) hw.1 hw.2).2
  unfold posK
  omega
theorem fold_range {α : Type} (f : α → Nat → α) (a : α) (n : Nat) : (List.range (n + 1)).foldl f a = f ((List.range n).foldl f a) n := by
  rw [List.range_succ, List.foldl_append]
  rfl
def addTo (s : Sk) (p : Pf) (n : Nat) : List Int := (List.range n).foldl (fun l k => incK l (posK s p k)) s.1
theorem incK_ok {l : List Int} (h : ∀ x ∈ l, 0 ≤ x ∧ x ≤ 255) (i : Nat) : (incK l i).length = l.length ∧ ∀ x ∈ incK l i, 0 ≤ x ∧ x ≤ 255 := by
  refine ⟨List.length_set, fun x hx => ?_⟩
  rcases List.mem_or_eq_of_mem_set hx with hx | rfl
  · exact h x hx
  · have : 0 ≤ l.getD i 0 := by
      by_cases hi : i < l.length
      · rw [List.getD_eq_getElem?_getD, List.getElem?_eq_getElem hi]
        exact (h _ (List.getElem_mem hi)).1
      · rw [List.getD_eq_getElem?_getD, List.getElem?_eq_none (by omega)]
        exact Int.le_refl _
    omega
theorem addTo_ok {s : Sk} (h : okK s) (p : Pf) : ∀ n, (addTo s p n).length = s.1.length ∧ ∀ x ∈ addTo s p n, 0 ≤ x ∧ x ≤ 255
  | 0 => ⟨rfl, h.c⟩
  | n + 1 => by
    have ih := addTo_ok h p n
    unfold addTo at *
    rw [fold_range]
    have := incK_ok ih.2 (posK s p n)
    exact ⟨this.1.trans ih.1, this.2⟩
theorem okK.same {s : Sk} (h : okK s) {l : List Int} (h1 : l.length = s.1.length) (h2 : ∀ x ∈ l, 0 ≤ x ∧ x ≤ 255) : okK (l, s.2) := by
  refine ⟨h.w, ?_, h2⟩
  obtain ⟨r, a, b, c⟩ := h.l
  exact ⟨r, a, b, by dsimp only; rw [h1]; exact c⟩
theorem okK_add {s : Sk} (h : okK s) (p : Pf) : okK (addK s p) := by
  unfold addK
  split
  · exact h.same (addTo_ok h p _).1 (addTo_ok h p _).2
  · exact h
theorem okK_dec {s : Sk} (h : okK s) : okK (decK s) := by
  refine h.same (l := s.1.map (· / 2)) (List.length_map ..) fun x hx => ?_
  obtain ⟨y, hy, rfl⟩ := List.mem_map.1 hx
  have := h.c y hy
  omega
theorem okK.pos0 {s : Sk} (h : okK s) : (s.1.length : Int) ≠ 0 := by
  obtain ⟨r, a, b, c⟩ := h.l
  have := mul_le4 (r := r) (w := s.2) (by omega) (by omega) h.w.1 h.w.2
  omega
theorem getD_ok {l : List Int} (h : ∀ x ∈ l, 0 ≤ x ∧ x ≤ 255) (i : Nat) : 0 ≤ l.getD i 0 ∧ l.getD i 0 ≤ 255 := by
  by_cases hi : i < l.length
  · rw [List.getD_eq_getElem?_getD, List.getElem?_eq_getElem hi]
    exact h _ (List.getElem_mem hi)
  · rw [List.getD_eq_getElem?_getD, List.getElem?_eq_none (by omega)]
    exact ⟨Int.le_refl _, by decide⟩
theorem p_sadd : T_sadd := by
  rintro ⟨s, p⟩ ⟨hs, hw⟩
  dsimp only at hs hw ⊢
  have hpos := hs.pos0
  have hsw := hs.w
  obtain ⟨r, hr, r1, r2, hl⟩ := hs.rows
  refine ifB_d (fun h => absurd h hpos) fun _ => ⟨p, rfl, rfl, rfl, rfl, hw, fun _ _ => ifB_b (fun hb => ?_) fun hb => ?_⟩
  · have hb : saneP p = false := by simpa using hb
    refine ⟨(), trivial, hb.symm, ?_, trivial⟩
    unfold addK
    rw [hb, if_neg (by decide)]
  have hb : saneP p = true := by simpa using hb
  have hq : (s.1.length : Int) / s.2 = r := by rw [hl, Int.mul_ediv_cancel _ (by omega)]
  refine ⟨by omega, fun x => 0 ≤ x.1 ∧ x.1 ≤ r ∧ x.2 = addTo s p x.1.toNat, fun x => (r - x.1).toNat, ⟨(0, s.1), ⟨by omega, by omega, rfl⟩, rfl, rfl, trivial⟩, ?_⟩
  rintro ⟨k, l⟩ ⟨k0, k1, hm⟩
  dsimp only at k0 k1 hm ⊢
  subst hm
  rw [hq]
  have hw64 : s.2 % 18446744073709551616 = s.2 := by omega
  have hok := addTo_ok hs p k.toNat
  refine ifB_d (fun hk => ?_) fun hk => ⟨(), trivial, hb.symm, ?_, trivial⟩
  · have hkk : ((k.toNat : Nat) : Int) = k := by omega
    obtain ⟨a1, a2, a3, a4, a5, a6⟩ := hs.pos (k := k.toNat) (by omega) p
    rw [hkk] at a1 a2 a3 a4 a5 a6
    have hh := hashP_range k p
    have hg := getD_ok hok.2 (posK s p k.toNat)
    refine ⟨by omega, (k, p), rfl, rfl, rfl, rfl, rfl, hw, fun _ _ => ?_⟩
    dsimp only
    rw [hw64]
    refine ⟨by omega, by omega, by omega, by omega, by omega, (k + 1, addTo s p (k + 1).toNat), ⟨by omega, by omega, rfl⟩, by simp only; omega, rfl, ?_, trivial⟩
    dsimp only
    rw [show (k * s.2 + hashP k p % s.2).toNat = posK s p k.toNat by omega, show (k + 1).toNat = k.toNat + 1 by omega]
    conv => rhs; unfold addTo
    rw [fold_range]
    show _ = incK (addTo s p k.toNat) (posK s p k.toNat)
    unfold incK
    congr 1
    omega
  · obtain rfl : k = r := by omega
    unfold addK
    rw [hb, if_pos rfl, hr]
    rfl
theorem p_scount : T_scount := by
  rintro ⟨s, p⟩ ⟨hs, hw⟩
  dsimp only at hs hw ⊢
  have hpos := hs.pos0
  have hsw := hs.w
  obtain ⟨r, hr, r1, r2, hl⟩ := hs.rows
  refine ifB_d (fun h => absurd h hpos) fun _ => ⟨p, rfl, rfl, rfl, rfl, hw, fun _ _ => ifB_b (fun hb => ?_) fun hb => ?_⟩
  · have hb : saneP p = false := by simpa using hb
    refine ⟨(), trivial, ?_, trivial⟩
    unfold countK
    rw [hb, if_neg (by decide)]
  have hb : saneP p = true := by simpa using hb
  have hq : (s.1.length : Int) / s.2 = r := by rw [hl, Int.mul_ediv_cancel _ (by omega)]
  refine ⟨by omega, fun x => 0 ≤ x.1 ∧ x.1 ≤ r ∧ x.2 = (List.range x.1.toNat).foldl (fun n k => min n (s.1.getD (posK s p k) 0)) 255, fun x => (r - x.1).toNat, ⟨(0, 255), ⟨by omega, by omega, rfl⟩, rfl, rfl, trivial⟩, ?_⟩
  rintro ⟨k, l⟩ ⟨k0, k1, hm⟩
  dsimp only at k0 k1 hm ⊢
  subst hm
  rw [hq]
  have hw64 : s.2 % 18446744073709551616 = s.2 := by omega
  refine ifB_d (fun hk => ?_) fun hk => ⟨(), trivial, ?_, trivial⟩
  · have hkk : ((k.toNat : Nat) : Int) = k := by omega
    obtain ⟨a1, a2, a3, a4, a5, a6⟩ := hs.pos (k := k.toNat) (by omega) p
    rw [hkk] at a1 a2 a3 a4 a5 a6
    have hh := hashP_range k p
    refine ⟨by omega, (k, p), rfl, rfl, rfl, rfl, rfl, hw, fun _ _ => ?_⟩
    dsimp only
    rw [hw64]
    refine ⟨by omega, by omega, by omega, by omega, by omega, (k + 1, (List.range (k + 1).toNat).foldl (fun n k => min n (s.1.getD (posK s p k) 0)) 255), ⟨by omega, by omega, rfl⟩, by simp only; omega, rfl, ?_, trivial⟩
    dsimp only
    rw [show (k * s.2 + hashP k p % s.2).toNat = posK s p k.toNat by omega, show (k + 1).toNat = k.toNat + 1 by omega, fold_range]
  · obtain rfl : k = r := by omega
    unfold countK
    rw [hb, if_pos rfl, hr]
    rfl
theorem p_sdecay : T_sdecay := by
  rintro ⟨l, w⟩ hs
  dsimp only at hs ⊢
  have hlen : (l.length : Int) ≤ 1024 := by
    obtain ⟨r, a, b, c⟩ := hs.l
    have := mul_le4 (r := r) (w := w) (by omega) (by omega) hs.w.1 hs.w.2
    dsimp only at c
    omega
  refine ⟨fun x => 0 ≤ x.1 ∧ x.1 ≤ l.length ∧ x.2 = (l.take x.1.toNat).map (· / 2) ++ l.drop x.1.toNat, fun x => (l.length - x.1).toNat, ⟨(0, l), ⟨by omega, by omega, rfl⟩, rfl, rfl, trivial⟩, ?_⟩
  rintro ⟨k, m⟩ ⟨k0, k1, hm⟩
  dsimp only at k0 k1 hm ⊢
  subst hm
  refine ifB_d (fun hk => ?_) fun hk => ⟨(), trivial, ?_, trivial⟩
  · have hl1 : ((l.take k.toNat).map (· / 2)).length = k.toNat := by rw [List.length_map, List.length_take]; omega
    have hget : ((l.take k.toNat).map (· / 2) ++ l.drop k.toNat).getD k.toNat 0 = l.getD k.toNat 0 := by
      rw [List.getD_eq_getElem?_getD, List.getElem?_append_right (by omega), hl1, Nat.sub_self, List.getElem?_drop, List.getD_eq_getElem?_getD]
      rfl
    rw [hget]
    have hg := getD_ok (l := l) hs.c k.toNat
    refine ⟨by omega, by omega, by omega, by omega, (k + 1, (l.take (k + 1).toNat).map (· / 2) ++ l.drop (k + 1).toNat), ⟨by omega, by omega, rfl⟩, by simp only; omega, rfl, ?_, trivial⟩
    dsimp only
    have hlt : k.toNat < l.length := by omega
    rw [show (k + 1).toNat = k.toNat + 1 by omega, List.set_append_right _ _ (by omega), hl1, Nat.sub_self, List.take_succ, List.getElem?_eq_getElem hlt, List.drop_eq_getElem_cons hlt, List.getD_eq_getElem?_getD, List.getElem?_eq_getElem hlt, List.map_append, List.append_assoc]
    rfl
  · rw [List.take_of_length_le (by omega), List.drop_eq_nil_of_le (by omega), List.append_nil]
    rfl
theorem GS0 : Goods Try.prog S0 := goods_cons (good_of_owes hM hP GR4 Try.func23 rfl (o_hash ▸ p_hash)) GR4
theorem GS1 : Goods Try.prog S1 := goods_cons (good_of_owes hM hP GS0 Try.func13 rfl (o_snew ▸ p_snew)) (goods_cons (good_of_owes hM hP GS0 Try.func17 rfl (o_sadd ▸ p_sadd)) (goods_cons (good_of_owes hM hP GS0 Try.func19 rfl (o_scount ▸ p_scount)) (goods_cons (good_of_owes hM hP GS0 Try.func15 rfl (o_sdecay ▸ p_sdecay)) GS0)))
end Sp
