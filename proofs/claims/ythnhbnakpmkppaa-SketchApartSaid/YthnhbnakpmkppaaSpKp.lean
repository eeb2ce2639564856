/- Contracts kept: rows of counts told one by one. -/
import Derived.Test.YthnhbnakpmkppaaSpKt
set_option linter.all false
set_option maxRecDepth 10000
namespace Sp
open Go Go.Proofs Sx Go.Proofs.Ythnhbnakpmkppaa.Ma
theorem piece_eq (s : Sk) (k i : Nat) : pieceK s k i = (s.1.drop (i * s.2.toNat)).take (min s.2.toNat (k - i * s.2.toNat)) := by
  unfold pieceK
  rw [List.drop_take, List.take_take]
theorem piece_len (s : Sk) (k i : Nat) : (pieceK s k i).length ≤ s.2.toNat := by
  unfold pieceK
  rw [List.length_take]
  omega
theorem piece_same {s : Sk} {k i : Nat} (h : i * s.2.toNat + s.2.toNat ≤ k) : pieceK s (k + 1) i = pieceK s k i := by
  rw [piece_eq, piece_eq, show min s.2.toNat (k + 1 - i * s.2.toNat) = min s.2.toNat (k - i * s.2.toNat) by omega]
theorem piece_last {s : Sk} {k i : Nat} (h : i * s.2.toNat ≤ k) (h1 : k + 1 ≤ i * s.2.toNat + s.2.toNat) (hk : k < s.1.length) : pieceK s (k + 1) i = pieceK s k i ++ [s.1.getD k 0] := by
  rw [piece_eq, piece_eq, show min s.2.toNat (k + 1 - i * s.2.toNat) = (k - i * s.2.toNat) + 1 by omega, show min s.2.toNat (k - i * s.2.toNat) = k - i * s.2.toNat by omega, List.take_succ, List.getElem?_drop, show i * s.2.toNat + (k - i * s.2.toNat) = k by omega, List.getElem?_eq_getElem hk, List.getD_eq_getElem?_getD, List.getElem?_eq_getElem hk]
  rfl
theorem piece_none {s : Sk} {k i : Nat} (h : k ≤ i * s.2.toNat) : pieceK s k i = [] := by
  rw [piece_eq, show min s.2.toNat (k - i * s.2.toNat) = 0 by omega]
  rfl
/-- So many rows are begun. -/
structure HK (s : Sk) (n : Nat) (k : Int) : Prop where
  k0 : 0 ≤ k
  k1 : k ≤ s.1.length
  n1 : 1 ≤ n
  lo : ((n : Int) - 1) * s.2 < k
  hi : k ≤ n * s.2
theorem HK.new {s : Sk} (hs : okK s) {n : Nat} {k : Int} (h : HK s n k) (hk : k < s.1.length) (hz : k % s.2 = 0) : HK s (n + 1) (k + 1) ∧ (∀ i, i < n → pieceK s (k + 1).toNat i = pieceK s k.toNat i) ∧ pieceK s (k + 1).toNat n = [s.1.getD k.toNat 0] ∧ n < 4 := by
  obtain ⟨r, hr, r1, r2, hl⟩ := hs.rows
  have hw := hs.w
  obtain ⟨k0, k1, n1, lo, hi⟩ := h
  have hq : k = k / s.2 * s.2 := (Int.ediv_mul_cancel_of_emod_eq_zero hz).symm
  generalize k / s.2 = q at hq
  have q1 : (n : Int) - 1 < q := Int.lt_of_mul_lt_mul_right (a := s.2) (by omega) (by omega)
  have q2 : q ≤ n := Int.le_of_mul_le_mul_right (a := s.2) (by omega) (by omega)
  obtain rfl : q = n := by omega
  have n4 : n < r := by
    have : (n : Int) < r := Int.lt_of_mul_lt_mul_right (a := s.2) (by omega) (by omega)
    omega
  have hW : ((s.2.toNat : Nat) : Int) = s.2 := by omega
  have hkn : k.toNat = n * s.2.toNat := by
    have : ((k.toNat : Nat) : Int) = ((n * s.2.toNat : Nat) : Int) := by rw [Int.natCast_mul, hW]; omega
    omega
  have e1 : (k + 1).toNat = k.toNat + 1 := by omega
  refine ⟨⟨by omega, by omega, by omega, ?_, ?_⟩, fun i hi => ?_, ?_, by omega⟩
  · rw [show ((n + 1 : Nat) : Int) - 1 = n by omega]; omega
  · rw [show ((n + 1 : Nat) : Int) = n + 1 by omega, Int.add_mul, Int.one_mul]; omega
  · rw [e1]
    refine piece_same ?_
    rw [hkn]
    have := Nat.mul_le_mul_right s.2.toNat (show i + 1 ≤ n by omega)
    rw [Nat.add_mul, Nat.one_mul] at this
    exact this
  · rw [e1, piece_last (by omega) (by omega) (by omega), piece_none (by omega)]
    rfl
theorem HK.more {s : Sk} (hs : okK s) {n : Nat} {k : Int} (h : HK s n k) (hk : k < s.1.length) (hz : ¬ k % s.2 = 0) : HK s n (k + 1) ∧ (∀ i, i + 1 < n → pieceK s (k + 1).toNat i = pieceK s k.toNat i) ∧ ∀ i, i + 1 = n → pieceK s (k + 1).toNat i = pieceK s k.toNat i ++ [s.1.getD k.toNat 0] := by
  have hw := hs.w
  obtain ⟨k0, k1, n1, lo, hi⟩ := h
  have hlt : k < n * s.2 := by
    rcases Int.lt_or_eq_of_le hi with h | h
    · exact h
    · rw [h, Int.mul_emod_left] at hz; exact absurd rfl hz
  have hW : ((s.2.toNat : Nat) : Int) = s.2 := by omega
  have e1 : (k + 1).toNat = k.toNat + 1 := by omega
  have lo' : (n - 1) * s.2.toNat < k.toNat := by
    have : (((n - 1) * s.2.toNat : Nat) : Int) = ((n : Int) - 1) * s.2 := by rw [Int.natCast_mul, hW, show (((n - 1 : Nat)) : Int) = (n : Int) - 1 by omega]
    omega
  have hi' : k.toNat < n * s.2.toNat := by
    have : ((n * s.2.toNat : Nat) : Int) = (n : Int) * s.2 := by rw [Int.natCast_mul, hW]
    omega
  refine ⟨⟨by omega, by omega, n1, by omega, by omega⟩, fun i hi2 => ?_, fun i hi2 => ?_⟩
  · rw [e1]
    refine piece_same ?_
    have := Nat.mul_le_mul_right s.2.toNat (show i + 1 ≤ n - 1 by omega)
    rw [Nat.add_mul, Nat.one_mul] at this
    omega
  · obtain rfl : i = n - 1 := by omega
    rw [e1]
    have : n * s.2.toNat = (n - 1) * s.2.toNat + s.2.toNat := by
      conv => lhs; rw [show n = (n - 1) + 1 by omega]
      rw [Nat.add_mul, Nat.one_mul]
    exact piece_last (by omega) (by omega) (by omega)
theorem HK.stop {s : Sk} (hs : okK s) {n : Nat} {k : Int} (h : HK s n k) (hk : ¬ k < s.1.length) : rowsK s = n ∧ ∀ i, pieceK s k.toNat i = rowK s i := by
  obtain ⟨r, hr, r1, r2, hl⟩ := hs.rows
  have hw := hs.w
  obtain ⟨k0, k1, n1, lo, hi⟩ := h
  have e : k = s.1.length := by omega
  refine ⟨?_, fun i => by rw [e]; rfl⟩
  rw [e, hl] at lo hi
  have a : (n : Int) - 1 < r := Int.lt_of_mul_lt_mul_right (a := s.2) lo (by omega)
  have b : (r : Int) ≤ n := Int.le_of_mul_le_mul_right (a := s.2) hi (by omega)
  omega
theorem p_srows : T_srows := by
  intro s hs
  have hw := hs.w
  have hpos := hs.pos0
  have hlen : (s.1.length : Int) ≤ 1024 := by
    obtain ⟨r, a, b, c⟩ := hs.l
    have := mul_le4 (r := r) (w := s.2) (by omega) (by omega) hs.w.1 hs.w.2
    omega
  have pl : ∀ k i, (pieceK s k i).length ≤ 256 := fun k i => by have := piece_len s k i; omega
  refine ifB_d (fun h => by omega) fun _ => ?_
  refine ⟨fun x => x = 0, fun x => (s.1.length - x).toNat, fun x => HK s 1 x.1 ∧ x.2 = pieceK s x.1.toNat 0, fun x => (s.1.length - x.1).toNat, fun x => HK s 2 x.1 ∧ x.2.1 = pieceK s x.1.toNat 0 ∧ x.2.2 = pieceK s x.1.toNat 1, fun x => (s.1.length - x.1).toNat, fun x => HK s 3 x.1 ∧ x.2.1 = pieceK s x.1.toNat 0 ∧ x.2.2.1 = pieceK s x.1.toNat 1 ∧ x.2.2.2 = pieceK s x.1.toNat 2, fun x => (s.1.length - x.1).toNat, fun x => HK s 4 x.1 ∧ x.2.1 = pieceK s x.1.toNat 0 ∧ x.2.2.1 = pieceK s x.1.toNat 1 ∧ x.2.2.2.1 = pieceK s x.1.toNat 2 ∧ x.2.2.2.2 = pieceK s x.1.toNat 3, fun x => (s.1.length - x.1).toNat, .inl ⟨0, rfl, trivial, rfl, trivial⟩, ?_, ?_, ?_, ?_, ?_, trivial⟩
  · rintro k rfl
    refine ifB_d (fun hk => ⟨by omega, by omega, ifB_d (fun hz => ⟨by omega, by omega, by omega, by rw [List.length_singleton]; omega, by omega, (.inr (.inl ⟨(1, [s.1.getD (0 : Int).toNat 0]), ⟨⟨by omega, by omega, by omega, by omega, by omega⟩, ?_⟩, by simp only; omega, rfl, rfl, rfl, rfl, trivial⟩))⟩) fun hz => absurd (Int.zero_emod _) hz⟩) fun hk => by omega
    have hp : pieceK s 1 0 = [s.1.getD 0 0] := by
      rw [piece_last (k := 0) (by omega) (by omega) (by omega), piece_none (by omega)]
      rfl
    exact hp.symm
  · rintro ⟨k, a⟩ ⟨H, ha⟩
    dsimp only at H ha ⊢
    subst ha
    have k0 := H.k0
    have p := fun i => pl k.toNat i
    have p0 := pl k.toNat 0
    refine ifB_d (fun hk => ⟨by omega, by omega, ifB_d (fun hz => ?_) fun hz => ?_⟩) fun hk => ?_
    · obtain ⟨H2, q1, q2, q3⟩ := H.new hs hk hz
      exact ⟨by omega, by omega, by omega, by rw [List.length_singleton]; omega, by omega, (.inr (.inr (.inl ⟨(k + 1, pieceK s k.toNat 0, [s.1.getD k.toNat 0]), ⟨H2, (q1 0 (by omega)).symm, q2.symm⟩, by simp only; omega, rfl, rfl, rfl, rfl, rfl, rfl, trivial⟩)))⟩
    · obtain ⟨H2, q1, q2⟩ := H.more hs hk hz
      exact ⟨by omega, by omega, by rw [List.length_singleton]; omega, by omega, (.inr (.inl ⟨(k + 1, pieceK s k.toNat 0 ++ [s.1.getD k.toNat 0]), ⟨H2, (q2 0 rfl).symm⟩, by simp only; omega, rfl, rfl, by dsimp only; rw [List.length_append], rfl, trivial⟩))⟩
    · obtain ⟨q1, q2⟩ := H.stop hs hk
      exact .inl ⟨(), q1, rfl, by rw [q2], q2 0, trivial⟩
  · rintro ⟨k, a, b⟩ ⟨H, ha, hb⟩
    dsimp only at H ha hb ⊢
    subst ha hb
    have k0 := H.k0
    have p := fun i => pl k.toNat i
    have p0 := pl k.toNat 0
    have p1 := pl k.toNat 1
    refine ifB_d (fun hk => ⟨by omega, by omega, ifB_d (fun hz => ?_) fun hz => ?_⟩) fun hk => ?_
    · obtain ⟨H2, q1, q2, q3⟩ := H.new hs hk hz
      exact ⟨by omega, by omega, by omega, by rw [List.length_singleton]; omega, by omega, (.inr (.inr (.inr (.inl ⟨(k + 1, pieceK s k.toNat 0, pieceK s k.toNat 1, [s.1.getD k.toNat 0]), ⟨H2, (q1 0 (by omega)).symm, (q1 1 (by omega)).symm, q2.symm⟩, by simp only; omega, rfl, rfl, rfl, rfl, rfl, rfl, rfl, rfl, trivial⟩))))⟩
    · obtain ⟨H2, q1, q2⟩ := H.more hs hk hz
      exact ⟨by omega, by omega, by rw [List.length_singleton]; omega, by omega, (.inr (.inr (.inl ⟨(k + 1, pieceK s k.toNat 0, pieceK s k.toNat 1 ++ [s.1.getD k.toNat 0]), ⟨H2, (q1 0 (by omega)).symm, (q2 1 rfl).symm⟩, by simp only; omega, rfl, rfl, rfl, by dsimp only; rw [List.length_append], rfl, rfl, trivial⟩)))⟩
    · obtain ⟨q1, q2⟩ := H.stop hs hk
      exact .inr (.inl ⟨(), q1, rfl, by rw [q2], by rw [q2], q2 0, q2 1, trivial⟩)
  · rintro ⟨k, a, b, c⟩ ⟨H, ha, hb, hc⟩
    dsimp only at H ha hb hc ⊢
    subst ha hb hc
    have k0 := H.k0
    have p := fun i => pl k.toNat i
    have p0 := pl k.toNat 0
    have p1 := pl k.toNat 1
    have p2 := pl k.toNat 2
    refine ifB_d (fun hk => ⟨by omega, by omega, ifB_d (fun hz => ?_) fun hz => ?_⟩) fun hk => ?_
    · obtain ⟨H2, q1, q2, q3⟩ := H.new hs hk hz
      exact ⟨by omega, by omega, by omega, by rw [List.length_singleton]; omega, by omega, (.inr (.inr (.inr (.inr (.inl ⟨(k + 1, pieceK s k.toNat 0, pieceK s k.toNat 1, pieceK s k.toNat 2, [s.1.getD k.toNat 0]), ⟨H2, (q1 0 (by omega)).symm, (q1 1 (by omega)).symm, (q1 2 (by omega)).symm, q2.symm⟩, by simp only; omega, rfl, rfl, rfl, rfl, rfl, rfl, rfl, rfl, rfl, rfl, trivial⟩)))))⟩
    · obtain ⟨H2, q1, q2⟩ := H.more hs hk hz
      exact ⟨by omega, by omega, by rw [List.length_singleton]; omega, by omega, (.inr (.inr (.inr (.inl ⟨(k + 1, pieceK s k.toNat 0, pieceK s k.toNat 1, pieceK s k.toNat 2 ++ [s.1.getD k.toNat 0]), ⟨H2, (q1 0 (by omega)).symm, (q1 1 (by omega)).symm, (q2 2 rfl).symm⟩, by simp only; omega, rfl, rfl, rfl, rfl, by dsimp only; rw [List.length_append], rfl, rfl, rfl, trivial⟩))))⟩
    · obtain ⟨q1, q2⟩ := H.stop hs hk
      exact .inr (.inr (.inl ⟨(), q1, rfl, by rw [q2], by rw [q2], by rw [q2], q2 0, q2 1, q2 2, trivial⟩))
  · rintro ⟨k, a, b, c, d⟩ ⟨H, ha, hb, hc, hd⟩
    dsimp only at H ha hb hc hd ⊢
    subst ha hb hc hd
    have k0 := H.k0
    have p := fun i => pl k.toNat i
    have p0 := pl k.toNat 0
    have p1 := pl k.toNat 1
    have p2 := pl k.toNat 2
    have p3 := pl k.toNat 3
    refine ifB_d (fun hk => ⟨by omega, by omega, ifB_d (fun hz => ?_) fun hz => ?_⟩) fun hk => ?_
    · obtain ⟨H2, q1, q2, q3⟩ := H.new hs hk hz
      exact absurd q3 (by omega)
    · obtain ⟨H2, q1, q2⟩ := H.more hs hk hz
      exact ⟨by omega, by omega, by rw [List.length_singleton]; omega, by omega, (.inr (.inr (.inr (.inr (.inl ⟨(k + 1, pieceK s k.toNat 0, pieceK s k.toNat 1, pieceK s k.toNat 2, pieceK s k.toNat 3 ++ [s.1.getD k.toNat 0]), ⟨H2, (q1 0 (by omega)).symm, (q1 1 (by omega)).symm, (q1 2 (by omega)).symm, (q2 3 rfl).symm⟩, by simp only; omega, rfl, rfl, rfl, rfl, rfl, by dsimp only; rw [List.length_append], rfl, rfl, rfl, rfl, trivial⟩)))))⟩
    · obtain ⟨q1, q2⟩ := H.stop hs hk
      exact .inr (.inr (.inr (⟨(), q1, rfl, by rw [q2], by rw [q2], by rw [q2], by rw [q2], q2 0, q2 1, q2 2, q2 3, trivial⟩)))
theorem GK : Goods Try.prog ((22, RowsS) :: S1) := goods_cons (good_of_owes hM hP GS0 Try.func22 rfl (o_srows ▸ p_srows)) GS1
end Sp
