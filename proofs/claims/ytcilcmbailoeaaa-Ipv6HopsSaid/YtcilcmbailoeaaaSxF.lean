/- A symbolic walk: quiet operations come to what their words say. -/
import Derived.Test.YtcilcmbailoeaaaSxE
set_option linter.all false
namespace Sx
open Go
section
variable {P : Program} {ν : Nu} {N : Nat} {w : World}
theorem run_size1 {e : TypeId} (h : inB 1 (P.cellsOf e) = true) : (Go.sizeOf e).run P w = .ok (P.cellsOf e) w := by
  have h := Nat.le_of_ble_eq_true h
  cases hq : P.info? e with
  | none => simp [Program.cellsOf, hq] at h
  | some i => simp [Go.sizeOf, typeInfo, hq, Program.cellsOf]
theorem info_size {e : TypeId} (h : 1 ≤ P.cellsOf e) : (P.info? e).map (·.size) = some (P.cellsOf e) := by
  cases hq : P.info? e with
  | none => simp [Program.cellsOf, hq] at h
  | some i => simp [Program.cellsOf, hq]
theorem elem_slice {t e : TypeId} (h : P.underlying t = some (.slice e)) : P.elem t = e := by simp [Program.elem, h]
theorem elem_array {t e : TypeId} {n : Nat} (h : P.underlying t = some (.array n e)) : P.elem t = e ∧ P.arrayLen t = n := by simp [Program.elem, Program.arrayLen, h]
theorem toAddr (a : Addr) (h : a.spot = none) (n : Nat) : a.add n = ⟨a.block, a.off + n, none⟩ := by
  cases a with
  | mk b o s => cases h; exact Addr.add_mid b o n
theorem among_out {i : Int} {f : Nat → Fl} {r : R} : ∀ {n j : Nat}, (among i f n j).Out r → ∃ k, j ≤ k ∧ k < j + n ∧ i = (k : Int) ∧ (f k).Out r
  | 0, _, h => h.elim
  | n + 1, j, h => by
    simp only [among, Fl.Out] at h
    split at h
    · rename_i hd
      exact ⟨j, Nat.le_refl _, by omega, of_decide_eq_true hd, h⟩
    · obtain ⟨k, h1, h2, h3, h4⟩ := among_out h
      exact ⟨k, by omega, by omega, h3, h4⟩
theorem spotless {a : Addr} (h : a.spot = none) : a = ⟨a.block, a.off, none⟩ := by cases a; cases h; rfl
theorem run_index_row {t e : TypeId} {a : Addr} {n cap : Nat} {k : IntKind} {i : Int} (hu : P.underlying t = some (.slice e)) (hs : inB 1 (P.cellsOf e) = true) (ha : a.spot = none) (h : 0 ≤ i ∧ i < (n : Int)) :
    (Instr.indexAt t (.slice (some a) n cap) (.int k i)).run P w = .ok (.pointer (some ⟨a.block, a.off + i.toNat * P.cellsOf e, none⟩)) w := by
  rw [run_indexAt_slice (P := P) (w := w) t a n cap k i (by rw [elem_slice hu]; exact hu), if_pos h, elem_slice hu, run_size1 hs]
  simp [toAddr a ha]
theorem run_index_arr {t e : TypeId} {a : Addr} {n j : Nat} {k : IntKind} (hu : P.underlying t = some (.array n e)) (hs : inB 1 (P.cellsOf e) = true) (ha : a.spot = none) (h : j < n) :
    (Instr.indexAt t (.pointer (some a)) (.int k j)).run P w = .ok (.pointer (some ⟨a.block, a.off + j * P.cellsOf e, none⟩)) w := by
  obtain ⟨e1, e2⟩ := elem_array hu
  rw [run_indexAt_array (P := P) (w := w) t a k j (by rw [e1, e2]; exact hu), if_pos (by rw [e2]; omega), e1, run_size1 hs]
  simp [toAddr a ha]
theorem indexAddr_sound {t : TypeId} {x i r : R} {u v : Value} (hx : relR ν N x u) (hi : relR ν N i v) (h : (indexAddr P t x i).Out r) :
    ∃ z, relR ν N r z ∧ (Instr.indexAt t u v).run P w = .ok z w := by
  unfold indexAddr at h
  split at h
  · rename_i e l n k i hu
    obtain ⟨hs, ⟨h0, h1⟩, h2⟩ := onlyIf_out h
    cases h2
    obtain ⟨_, rfl⟩ := relI hi
    obtain ⟨hl, rfl, base, cap, hsv, hnc, hsp, hnn⟩ := hx
    cases base with
    | none => have := hnn rfl; omega
    | some a =>
      have ha := hsp a rfl
      rw [hsv]
      exact ⟨_, ⟨hl, a.block, a.off, n, cap, by rw [hsv, ← spotless ha], by omega, rfl⟩, run_index_row hu hs ha ⟨h0, h1⟩⟩
  · rename_i e l z a b k i hu
    obtain ⟨hs, ⟨h0, h1⟩, h2⟩ := onlyIf_out h
    cases h2
    simp only [Bool.and_eq_true] at hs
    obtain ⟨hs, hz⟩ := hs
    have hz := Nat.eq_of_beq_eq_true hz
    subst hz
    obtain ⟨_, rfl⟩ := relI hi
    obtain ⟨hl, base, n, cap, base', hsv, hab, hbn, ⟨hnc, hsp, hnn⟩, rfl, hba, hok'⟩ := hx
    have hac : a < cap := by omega
    have hba := hba (.inl hac)
    cases base with
    | none => have := hnn rfl; omega
    | some x =>
      have ha := hsp x rfl
      subst hba
      refine ⟨_, ⟨hl, x.block, x.off, n, cap, by rw [hsv, ← spotless ha], by omega, rfl⟩, ?_⟩
      rw [show addA (some x) (a * P.cellsOf e) = some ⟨x.block, x.off + a * P.cellsOf e, none⟩ from rfl, run_index_row hu hs rfl ⟨h0, h1⟩]
      rw [Nat.add_mul, Nat.add_assoc]
      rfl
  · rename_i n e l o k i hu
    obtain ⟨hs, h⟩ := onlyIf_out h
    obtain ⟨j, _, h2, rfl, h4⟩ := among_out h
    cases h4
    obtain ⟨_, rfl⟩ := relI hi
    obtain ⟨hl, rfl⟩ := hx
    exact ⟨_, ⟨hl, rfl⟩, run_index_arr hu hs rfl (by omega)⟩
  · rename_i e l n k i hu
    obtain ⟨hs, ⟨h0, h1⟩, h2⟩ := onlyIf_out h
    cases h2
    obtain ⟨_, rfl⟩ := relI hi
    obtain ⟨hl, hn, rfl⟩ := hx
    refine ⟨_, ⟨hl, rfl⟩, ?_⟩
    rw [run_index_row hu hs rfl ⟨h0, h1⟩]
    simp
  · rename_i n e l z m o k i hu
    obtain ⟨hs, h⟩ := onlyIf_out h
    obtain ⟨j, _, h2, rfl, h4⟩ := among_out h
    cases h4
    obtain ⟨_, rfl⟩ := relI hi
    obtain ⟨hl, b, off, q, cap, hsv, hm, rfl⟩ := hx
    refine ⟨_, ⟨hl, b, off, q, cap, hsv, hm, ?_⟩, run_index_arr hu hs rfl (by omega)⟩
    simp [Nat.add_assoc]
  · exact h.elim
theorem slice_run {t e : TypeId} {base : Option Addr} {n cap : Nat} {low high : Option Value} {a b : Nat} (hu : P.underlying t = some (.slice e)) (hs : inB 1 (P.cellsOf e) = true)
    (hl : (low = none ∧ a = 0) ∨ ∃ k, low = some (.int k a)) (hh : (high = none ∧ b = n) ∨ ∃ k, high = some (.int k b)) (hab : a ≤ b) (hbc : b ≤ cap) :
    (Instr.sliceAt t (.slice base n cap) low high none).run P w = .ok (sliced base a b cap (P.cellsOf e)) w := by
  have he := elem_slice hu
  have hu' : P.underlying t = some (.slice (P.elem t)) := by rw [he]; exact hu
  rw [run_sliceAt_slice (P := P) (w := w) t _ _ _ _ hu']
  rcases hl with ⟨rfl, rfl⟩ | ⟨k, rfl⟩ <;> rcases hh with ⟨rfl, rfl⟩ | ⟨k', rfl⟩
  · rw [run_slice_all (P := P) (w := w) t base b cap hu', he, run_size1 hs]; rfl
  · rw [run_slice_h (P := P) (w := w) t base n cap hu' k' b (by omega) (by omega), he, run_size1 hs]; simp
  · rw [run_slice_l (P := P) (w := w) t base b cap hu' k a (by omega) (by omega), he, run_size1 hs]; simp
  · rw [run_slice_lh (P := P) (w := w) t base n cap hu' k k' a b (by omega) (by omega) (by omega), he, run_size1 hs]; simp
/-- A part of a part. -/
theorem rel_sliced {l z a b lo hi n cap : Nat} {base base' : Option Addr} (hl : l < N) (hsv : ν.sv l = .slice base n cap) (hbn : b ≤ n) (hok : okSl base n cap) (hba : a < cap ∨ a = 0 → base' = addA base (a * z)) (hok' : okSl base' (b - a) (cap - a))
    (hab : a ≤ b) (h1 : lo ≤ hi) (h2 : hi ≤ b - a) : relA ν N (.sb l z (a + lo) (a + hi)) (sliced base' lo hi (cap - a) z) := by
  obtain ⟨h3, h4, h5⟩ := hok'
  obtain ⟨h6, h7, h8⟩ := hok
  refine ⟨hl, base, n, cap, _, hsv, by omega, by omega, ⟨h6, h7, h8⟩, by simp only [sliced]; congr 1 <;> omega, ?_, ?_⟩
  · intro hc
    rcases hc with hc | hc
    · rw [if_neg (by omega), hba (by omega)]
      cases base with
      | none => rfl
      | some x =>
        show some ((⟨x.block, x.off + a * z, none⟩ : Addr).add (lo * z)) = some ⟨x.block, x.off + (a + lo) * z, none⟩
        rw [Addr.add_mid, Nat.add_mul, Nat.add_assoc]
    · have h0 : a = 0 := by omega
      have h0' : lo = 0 := by omega
      subst h0
      subst h0'
      rw [hba (.inr rfl)]
      cases base with
      | none => simp [addA]
      | some x =>
        show (if _ then some (⟨x.block, x.off + 0 * z, none⟩ : Addr) else some ((⟨x.block, x.off + 0 * z, none⟩ : Addr).add (0 * z))) = some ⟨x.block, x.off + (0 + 0) * z, none⟩
        rw [Addr.add_mid]
        simp
  · refine ⟨by omega, ?_, ?_⟩
    · intro x hx
      split at hx
      · exact h4 x hx
      · cases base' with
        | none => cases hx
        | some y =>
          cases hx
          show (y.add (lo * z)).spot = none
          rw [toAddr y (h4 y rfl)]
    · intro hx
      split at hx
      · have := h5 hx; omega
      · cases base' with
        | none => have := h5 rfl; omega
        | some y => cases hx
theorem rel_sliced0 {l z lo hi n cap : Nat} {base : Option Addr} (hl : l < N) (hsv : ν.sv l = .slice base n cap) (hok : okSl base n cap) (h1 : lo ≤ hi) (h2 : hi ≤ n) :
    relA ν N (.sb l z lo hi) (sliced base lo hi cap z) := by
  have := rel_sliced (ν := ν) (N := N) (l := l) (z := z) (a := 0) (b := n) (lo := lo) (hi := hi) (base := base) (base' := base) hl hsv (Nat.le_refl _) hok (fun _ => by
    cases base with
    | none => rfl
    | some x => simp [addA]; exact spotless (hok.2.1 x rfl)) (by simpa using hok) (Nat.zero_le _) h1 (by simpa using h2)
  simpa using this
theorem elemT_some {t e : TypeId} (h : elemT P t = some e) : P.underlying t = some (.slice e) := by
  unfold elemT at h
  split at h
  · rename_i e' hu
    cases h
    exact hu
  · cases h
theorem slice_sound {t : TypeId} {x r : R} {low high : Option R} {u : Value} {lv hv : Option Value} (hx : relR ν N x u) (hl : match low, lv with | none, none => True | some l, some v => relR ν N l v | _, _ => False)
    (hh : match high, hv with | none, none => True | some l, some v => relR ν N l v | _, _ => False) (h : (slice P t x low high).Out r) :
    ∃ z, relR ν N r z ∧ (Instr.sliceAt t u lv hv none).run P w = .ok z w := by
  unfold slice at h
  split at h
  · exact h.elim
  rename_i e he
  have hu := elemT_some he
  have hs := (onlyIf_out h).1
  replace h := (onlyIf_out h).2
  split at h
  · rename_i l n k i
    obtain ⟨⟨h0, h1⟩, h2⟩ := h
    cases h2
    cases lv with
    | none => exact hl.elim
    | some lv =>
      cases hv with
      | some _ => exact hh.elim
      | none =>
        obtain ⟨_, rfl⟩ := relI hl
        obtain ⟨hl, rfl, base, cap, hsv, hok⟩ := hx
        rw [hsv]
        refine ⟨_, rel_sliced0 hl hsv hok (lo := i.toNat) (hi := n) (by omega) (Nat.le_refl _), slice_run hu hs (.inr ⟨k, by rw [Int.toNat_of_nonneg h0]⟩) (.inl ⟨rfl, rfl⟩) (by omega) hok.1.1⟩
  · rename_i l n k j
    obtain ⟨⟨h0, h1⟩, h2⟩ := h
    cases h2
    cases lv with
    | some _ => exact hl.elim
    | none =>
      cases hv with
      | none => exact hh.elim
      | some hv =>
        obtain ⟨_, rfl⟩ := relI hh
        obtain ⟨hl, rfl, base, cap, hsv, hok⟩ := hx
        rw [hsv]
        have := hok.1
        refine ⟨_, rel_sliced0 hl hsv hok (lo := 0) (hi := j.toNat) (by omega) (by omega), slice_run hu hs (.inl ⟨rfl, rfl⟩) (.inr ⟨k, by rw [Int.toNat_of_nonneg h0]⟩) (by omega) (by omega)⟩
  · rename_i l n k i k' j
    obtain ⟨⟨h0, h1, h1'⟩, h2⟩ := h
    cases h2
    cases lv with
    | none => exact hl.elim
    | some lv =>
      cases hv with
      | none => exact hh.elim
      | some hv =>
        obtain ⟨_, rfl⟩ := relI hl
        obtain ⟨_, rfl⟩ := relI hh
        obtain ⟨hl, rfl, base, cap, hsv, hok⟩ := hx
        rw [hsv]
        have := hok.1
        refine ⟨_, rel_sliced0 hl hsv hok (lo := i.toNat) (hi := j.toNat) (by omega) (by omega), slice_run hu hs (.inr ⟨k, by rw [Int.toNat_of_nonneg h0]⟩) (.inr ⟨k', by rw [Int.toNat_of_nonneg (by omega)]⟩) (by omega) (by omega)⟩
  · rename_i l z a b k i
    obtain ⟨hz, ⟨h0, h1⟩, h2⟩ := onlyIf_out h
    cases h2
    have hz := Nat.eq_of_beq_eq_true hz
    subst hz
    cases lv with
    | none => exact hl.elim
    | some lv =>
      cases hv with
      | some _ => exact hh.elim
      | none =>
        obtain ⟨_, rfl⟩ := relI hl
        obtain ⟨hl, base, n, cap, base', hsv, hab, hbn, hok, rfl, hba, hok'⟩ := hx
        have := rel_sliced hl hsv hbn hok hba hok' hab (lo := i.toNat) (hi := b - a) (by omega) (Nat.le_refl _)
        rw [show a + (b - a) = b by omega] at this
        exact ⟨_, this, slice_run hu hs (.inr ⟨k, by rw [Int.toNat_of_nonneg h0]⟩) (.inl ⟨rfl, rfl⟩) (by omega) hok'.1.1⟩
  · rename_i l z a b k j
    obtain ⟨hz, ⟨h0, h1⟩, h2⟩ := onlyIf_out h
    cases h2
    have hz := Nat.eq_of_beq_eq_true hz
    subst hz
    cases lv with
    | some _ => exact hl.elim
    | none =>
      cases hv with
      | none => exact hh.elim
      | some hv =>
        obtain ⟨_, rfl⟩ := relI hh
        obtain ⟨hl, base, n, cap, base', hsv, hab, hbn, hok, rfl, hba, hok'⟩ := hx
        have := rel_sliced hl hsv hbn hok hba hok' hab (lo := 0) (hi := j.toNat) (by omega) (by omega)
        have h9 := hok'.1
        exact ⟨_, this, slice_run hu hs (.inl ⟨rfl, rfl⟩) (.inr ⟨k, by rw [Int.toNat_of_nonneg h0]⟩) (by omega) (by omega)⟩
  · rename_i l z a b k i k' j
    obtain ⟨hz, ⟨h0, h1, h1'⟩, h2⟩ := onlyIf_out h
    cases h2
    have hz := Nat.eq_of_beq_eq_true hz
    subst hz
    cases lv with
    | none => exact hl.elim
    | some lv =>
      cases hv with
      | none => exact hh.elim
      | some hv =>
        obtain ⟨_, rfl⟩ := relI hl
        obtain ⟨_, rfl⟩ := relI hh
        obtain ⟨hl, base, n, cap, base', hsv, hab, hbn, hok, rfl, hba, hok'⟩ := hx
        have := rel_sliced hl hsv hbn hok hba hok' hab (lo := i.toNat) (hi := j.toNat) (by omega) (by omega)
        have h9 := hok'.1
        exact ⟨_, this, slice_run hu hs (.inr ⟨k, by rw [Int.toNat_of_nonneg h0]⟩) (.inr ⟨k', by rw [Int.toNat_of_nonneg (by omega)]⟩) (by omega) (by omega)⟩
  · rename_i k i
    obtain ⟨rfl, h2⟩ := h
    cases h2
    cases hx
    cases lv with
    | none => exact hl.elim
    | some lv =>
      cases hv with
      | some _ => exact hh.elim
      | none =>
        obtain ⟨_, rfl⟩ := relI hl
        exact ⟨_, rfl, slice_run (a := 0) (b := 0) hu hs (.inr ⟨k, rfl⟩) (.inl ⟨rfl, rfl⟩) (by omega) (by omega)⟩
  · rename_i k i
    obtain ⟨rfl, h2⟩ := h
    cases h2
    cases hx
    cases lv with
    | some _ => exact hl.elim
    | none =>
      cases hv with
      | none => exact hh.elim
      | some hv =>
        obtain ⟨_, rfl⟩ := relI hh
        exact ⟨_, rfl, slice_run (a := 0) (b := 0) hu hs (.inl ⟨rfl, rfl⟩) (.inr ⟨k, rfl⟩) (by omega) (by omega)⟩
  · rename_i k i k' j
    obtain ⟨⟨rfl, rfl⟩, h2⟩ := h
    cases h2
    cases hx
    cases lv with
    | none => exact hl.elim
    | some lv =>
      cases hv with
      | none => exact hh.elim
      | some hv =>
        obtain ⟨_, rfl⟩ := relI hl
        obtain ⟨_, rfl⟩ := relI hh
        exact ⟨_, rfl, slice_run (a := 0) (b := 0) hu hs (.inr ⟨k, rfl⟩) (.inr ⟨k', rfl⟩) (by omega) (by omega)⟩
  · exact h.elim
end
end Sx
