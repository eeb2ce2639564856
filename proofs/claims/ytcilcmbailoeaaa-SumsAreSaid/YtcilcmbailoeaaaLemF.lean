/- Plain facts on bytes with their sum in them. -/
import Derived.Test.YtcilcmbailoeaaaLemS
namespace Go.Proofs.Ytcilcmbailoeaaa.Pure
open Go.RowKit Go.Proofs.Ytcilcmbailoeaaa.KS Go.Proofs.YtcilcmbailoeaaaW.PrintWords Go.Proofs.YtcilcmbailoeaaaW.PrintLast

theorem fill_len (l : List Int) (m : Nat) : (fillAt l m).length = l.length := by simp [fillAt]
theorem fill_zero (l : List Int) (m : Nat) (a b : Int) : ((((l.set (2 * m) a).set (2 * m + 1) b).set (2 * m) 0).set (2 * m + 1) 0) = (l.set (2 * m) 0).set (2 * m + 1) 0 := by
  apply List.ext_getElem
  · simp
  · intro i h1 h2
    simp only [List.getElem_set]
    split
    · rfl
    · split <;> rfl
theorem fill_same (l : List Int) (m : Nat) (a b : Int) : fillAt ((l.set (2 * m) a).set (2 * m + 1) b) m = fillAt l m := by
  unfold fillAt
  rw [fill_zero]
theorem fill_twice (l : List Int) (m : Nat) : fillAt (fillAt l m) m = fillAt l m := by
  have h : ∃ a b, fillAt l m = (((l.set (2 * m) 0).set (2 * m + 1) 0).set (2 * m) a).set (2 * m + 1) b := ⟨_, _, rfl⟩
  obtain ⟨a, b, h⟩ := h
  rw [h, fill_same, fill_same, ← h]
theorem fill_rd (l : List Int) (m : Nat) (i : Int) (h0 : 0 ≤ i) (h1 : i ≠ 2 * (m : Int)) (h2 : i ≠ 2 * (m : Int) + 1) : rd (fillAt l m) i = rd l i := by
  unfold rd fillAt
  simp only [List.getD_eq_getElem?_getD]
  rw [List.getElem?_set_ne (by omega), List.getElem?_set_ne (by omega), List.getElem?_set_ne (by omega), List.getElem?_set_ne (by omega)]
theorem wsum_put : ∀ (m : Nat) (l : List Int) (a b : Int), 2 * m + 1 < l.length → wsum ((l.set (2 * m) a).set (2 * m + 1) b) = wsum ((l.set (2 * m) 0).set (2 * m + 1) 0) + (a * 256 + b)
  | 0, [], _, _, h => by simp at h
  | 0, [_], _, _, h => by simp at h
  | 0, x :: y :: t, a, b, _ => by simp [wsum]; omega
  | m + 1, [], _, _, h => by simp at h
  | m + 1, [_], _, _, h => by simp at h
  | m + 1, x :: y :: t, a, b, h => by
    have ih := wsum_put m t a b (by simp only [List.length_cons] at h; omega)
    rw [show 2 * (m + 1) = (2 * m + 1) + 1 from by omega]
    simp only [List.set_cons_succ, wsum, ih]
    omega
theorem okb_set {l : List Int} (h : okb l) (i : Nat) (x : Int) (h0 : 0 ≤ x) (h1 : x ≤ 255) : okb (l.set i x) := fun y hy => by
  rcases List.mem_or_eq_of_mem_set hy with h2 | h2
  · exact h y h2
  · omega
theorem okb_zero {l : List Int} (h : okb l) (m : Nat) : okb ((l.set (2 * m) 0).set (2 * m + 1) 0) := okb_set (okb_set h _ 0 (by omega) (by omega)) _ 0 (by omega) (by omega)
theorem chk_red (l : List Int) : chk l = red (wsum l) := rfl
theorem okb_fill {l : List Int} (h : okb l) (m : Nat) : okb (fillAt l m) := by
  have hb := red_bd (wsum ((l.set (2 * m) 0).set (2 * m + 1) 0))
  unfold fillAt
  refine okb_set (okb_set (okb_zero h m) _ _ ?_ ?_) _ _ ?_ ?_ <;> rw [chk_red] <;> omega
theorem chk_fill {l : List Int} (h : okb l) (m : Nat) (hm : 2 * m + 1 < l.length) : chk (fillAt l m) = 65535 := by
  obtain ⟨z, hz⟩ : ∃ z, z = (l.set (2 * m) 0).set (2 * m + 1) 0 := ⟨_, rfl⟩
  have e : fillAt l m = (z.set (2 * m) ((65535 - chk z) / 256)).set (2 * m + 1) ((65535 - chk z) % 256) := by rw [hz]; rfl
  have hzz : (z.set (2 * m) 0).set (2 * m + 1) 0 = z := by rw [hz, fill_zero]
  have hw := wsum_put m z ((65535 - chk z) / 256) ((65535 - chk z) % 256) (by rw [hz]; simp; omega)
  rw [← e, hzz] at hw
  have hb := wsum_bd z (by rw [hz]; exact okb_zero h m)
  rw [chk_red, hw, chk_red]
  have : (65535 - red (wsum z)) / 256 * 256 + (65535 - red (wsum z)) % 256 = 65535 - red (wsum z) := by omega
  rw [this]
  unfold red
  by_cases h0 : wsum z = 0
  · simp only [h0, if_pos]
    decide
  · simp only [if_neg h0]
    rw [if_neg (by omega)]
    omega
theorem fill_is (l : List Int) (m : Nat) (h : okb l) (hl : l.length < 140737488355328) (hm : 2 * m + 1 < l.length) : sums_Fill.f l (2 * (m : Int)) = some (fillAt l m, true) := by
  unfold sums_Fill.f
  rw [if_pos ⟨h, hl⟩, if_pos ⟨by omega, by omega, by omega⟩, show (2 * (m : Int)).toNat / 2 = m from by omega]
theorem and_ffff (x : Int) : Go.bits .and .i64 x 65535 = x % 65536 := by
  have h127 : (BitVec.ofInt 64 65535).toNat = 2 ^ 16 - 1 := by decide
  have key : (BitVec.ofInt 64 x &&& BitVec.ofInt 64 65535).toNat = (x % ((2 ^ 64 : Nat) : Int)).toNat % 2 ^ 16 := by
    rw [BitVec.toNat_and, BitVec.toNat_ofInt, h127, Nat.and_two_pow_sub_one_eq_mod]
  show IntKind.i64.wrap ((BitVec.ofInt 64 x &&& BitVec.ofInt 64 65535).toNat : Nat) = x % 65536
  rw [key, IntKind.wrap_i64]
  omega
end Go.Proofs.Ytcilcmbailoeaaa.Pure
