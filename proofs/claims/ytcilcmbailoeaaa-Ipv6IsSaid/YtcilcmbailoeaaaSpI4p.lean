/- Contracts kept: sums, packets of the fourth version. -/
import Derived.Test.YtcilcmbailoeaaaSpI4t
import Derived.ProofKit
set_option linter.all false
set_option maxRecDepth 10000
namespace Sp
open Go Go.Proofs Sx Go.Proofs.Ytcilcmbailoeaaa.Ma
theorem and_low (x : Int) (h0 : 0 ≤ x) (h1 : x < 18446744073709551616) : bits .and .u64 x 65535 = x % 65536 := by
  obtain ⟨n, rfl⟩ := Int.eq_ofNat_of_zero_le h0
  have := u64_and_nat n 65535 (by omega) (by omega)
  have e := Nat.and_two_pow_sub_one_eq_mod n 16
  rw [show (65535 : Int) = ((65535 : Nat) : Int) from rfl, this, show (65535 : Nat) = 2 ^ 16 - 1 from rfl, e]
  omega
theorem and_nib (x : Int) (h0 : 0 ≤ x) (h1 : x ≤ 255) : bits .and .u8 x 15 = x % 16 := by
  obtain ⟨n, rfl⟩ := Int.eq_ofNat_of_zero_le h0
  have := u8_and_nat n 15 (by omega) (by omega)
  have e := Nat.and_two_pow_sub_one_eq_mod n 4
  rw [show (15 : Int) = ((15 : Nat) : Int) from rfl, this, show (15 : Nat) = 2 ^ 4 - 1 from rfl, e]
  omega
theorem not_u16 (x : Int) (h0 : 0 ≤ x) (h1 : x ≤ 65535) : bits .xor .u16 65535 x = 65535 - x := by
  obtain ⟨n, rfl⟩ := Int.eq_ofNat_of_zero_le h0
  have := u16_xor_nat 65535 n (by omega) (by omega)
  have e : 65535 ^^^ n = 65535 - n := by
    have h2 := Nat.testBit_two_pow_sub_succ (x := n) (n := 16) (by omega)
    apply Nat.eq_of_testBit_eq
    intro j
    rw [show (65535 : Nat) - n = 2 ^ 16 - (n + 1) by omega, h2, Nat.testBit_xor, show (65535 : Nat) = 2 ^ 16 - 1 from rfl, Nat.testBit_two_pow_sub_one]
    by_cases hj : j < 16
    · simp [hj]
    · have : n.testBit j = false := Nat.testBit_lt_two_pow (Nat.lt_of_lt_of_le (by omega : n < 2 ^ 16) (Nat.pow_le_pow_right (by omega) (by omega)))
      simp [hj, this]
  rw [show (65535 : Int) = ((65535 : Nat) : Int) from rfl, this, e]
  omega
theorem or_two64 (a b : Int) (ha : 0 ≤ a ∧ a ≤ 255) (hb : 0 ≤ b ∧ b ≤ 255) : bits .or .u64 (a * 256 % 18446744073709551616) b = a * 256 + b := by
  obtain ⟨x, rfl⟩ := Int.eq_ofNat_of_zero_le ha.1
  obtain ⟨y, rfl⟩ := Int.eq_ofNat_of_zero_le hb.1
  have := u64_or_nat (x * 256) y (by omega) (by omega)
  have h2 := Nat.shiftLeft_add_eq_or_of_lt (i := 8) (b := y) (by omega) x
  rw [Nat.shiftLeft_eq] at h2
  rw [show (x : Int) * 256 % 18446744073709551616 = ((x * 256 : Nat) : Int) by omega, this, show x * 256 = x * 2 ^ 8 from rfl, ← h2]
  omega
theorem or_two16 (a b : Int) (ha : 0 ≤ a ∧ a ≤ 255) (hb : 0 ≤ b ∧ b ≤ 255) : bits .or .u16 (a * 256 % 65536) b = a * 256 + b := by
  obtain ⟨x, rfl⟩ := Int.eq_ofNat_of_zero_le ha.1
  obtain ⟨y, rfl⟩ := Int.eq_ofNat_of_zero_le hb.1
  have := u16_or_nat (x * 256) y (by omega) (by omega)
  have h2 := Nat.shiftLeft_add_eq_or_of_lt (i := 8) (b := y) (by omega) x
  rw [Nat.shiftLeft_eq] at h2
  rw [show (x : Int) * 256 % 65536 = ((x * 256 : Nat) : Int) by omega, this, show x * 256 = x * 2 ^ 8 from rfl, ← h2]
  omega
theorem and_one (x : Int) (h0 : 0 ≤ x) (h1 : x ≤ 9223372036854775807) : bits .and .i64 x 1 = x % 2 := by
  obtain ⟨n, rfl⟩ := Int.eq_ofNat_of_zero_le h0
  have := i64_and_nat n 1 (by omega) (by omega)
  rw [show (1 : Int) = ((1 : Nat) : Int) from rfl, this, Nat.and_one_is_mod]
  omega
theorem p_fold : T_fold := by
  rintro n ⟨h0, h1⟩
  refine ⟨fun x => 0 ≤ x ∧ x < 18446744073709551616 ∧ foldZ x = foldZ n, fun x => x.toNat, ⟨n, ⟨h0, h1, rfl⟩, rfl, trivial⟩, ?_⟩
  rintro x ⟨x0, x1, hx⟩
  refine ifB_d (fun h => ?_) fun h => ?_
  · have e := and_low x x0 x1
    rw [e, Int.emod_eq_of_lt (a := x % 65536 + x / 65536) (by omega) (by omega)]
    exact ⟨by omega, _, ⟨by omega, by omega, by rw [foldZ_step h]; exact hx⟩, by simp only; omega, rfl, trivial⟩
  · have := foldZ_small x0 (by omega)
    exact ⟨(), trivial, by omega, trivial⟩
theorem p_bclone : T_bclone := by
  intro x hx
  have hx : x.length ≤ 1000000 := hx
  refine ⟨fun h => ⟨(), trivial, h.symm, (List.length_eq_zero_iff.1 h).symm, trivial⟩, ⟨by omega, by omega⟩, (), trivial, by omega, rfl, trivial⟩
theorem GI0 : Goods Try.prog I0 := goods_cons (good_of_owes hM hP GW1 Try.func98 rfl (o_fold ▸ p_fold)) (goods_cons (good_of_owes hM hP GW1 Try.func99 rfl (o_bclone ▸ p_bclone)) GW1)
theorem wsum_two (b : List Int) (k : Nat) (h : k + 1 < b.length) : wsum (b.drop k) = b.getD k 0 * 256 + b.getD (k + 1) 0 + wsum (b.drop (k + 2)) := by
  rw [List.drop_eq_getElem_cons (by omega : k < b.length), List.drop_eq_getElem_cons h]
  simp only [wsum, List.getD_eq_getElem?_getD, List.getElem?_eq_getElem h, List.getElem?_eq_getElem (by omega : k < b.length), Option.getD_some]
theorem wsum_one (b : List Int) (k : Nat) (h : k + 1 = b.length) : wsum (b.drop k) = b.getD k 0 * 256 := by
  rw [List.drop_eq_getElem_cons (by omega : k < b.length), List.drop_eq_nil_of_le (by omega)]
  simp only [wsum, List.getD_eq_getElem?_getD, List.getElem?_eq_getElem (by omega : k < b.length), Option.getD_some]
theorem p_sum : T_sum := by
  rintro b ⟨hb, hl⟩
  have hb : okB b := hb
  have hl : b.length ≤ 1000000 := hl
  have hle := wsum_le b hb
  refine ⟨fun q => q.2.1 = b.length ∧ q.1 ≤ b.length ∧ 0 ≤ q.2.2 ∧ q.2.2 + wsum (b.drop q.1) = wsum b, fun q => b.length - q.1, ⟨(0, b.length, 0), ⟨rfl, by omega, by simp, by simp⟩, rfl, rfl, rfl, trivial⟩, ?_⟩
  rintro ⟨k, _, n⟩ ⟨rfl, hk, hn, he⟩
  dsimp only at hk hn he ⊢
  have hd := wsum_nonneg _ (okB_drop hb k)
  have b0 := okB_getD hb k
  have b1 := okB_getD hb (k + 1)
  have fr := foldZ_range (wsum b)
  refine ifB_d (fun h => ?_) fun h => ifB_d (fun h' => ?_) fun h' => ?_
  · have hw := wsum_two b k (by omega)
    have hd2 := wsum_nonneg _ (okB_drop hb (k + 2))
    simp only [Nat.add_zero]
    rw [or_two64 _ _ b0 b1]
    refine ⟨by omega, by omega, by omega, by omega, (k + 2, b.length, n + (b.getD k 0 * 256 + b.getD (k + 1) 0)), ⟨rfl, by simp only; omega, by simp only; omega, by simp only; omega⟩, by simp only; omega, rfl, rfl, by simp only; omega, trivial⟩
  · have hw := wsum_one b k (by omega)
    rw [Nat.add_zero]
    refine ⟨by omega, by omega, wsum b, by omega, ⟨by omega, by omega⟩, fun _ _ => ⟨(), trivial, ?_, trivial⟩⟩
    rw [not_u16 _ fr.1 fr.2]
    rfl
  · have : b.drop k = [] := List.drop_eq_nil_of_le (by omega)
    rw [this] at he
    have he : n + 0 = wsum b := he
    refine ⟨wsum b, by omega, ⟨by omega, by omega⟩, fun _ _ => ⟨(), trivial, ?_, trivial⟩⟩
    rw [not_u16 _ fr.1 fr.2]
    rfl
theorem p_word : T_word := by
  rintro b ⟨hb, hl⟩
  have hb : okB b := hb
  refine ⟨by omega, by omega, by omega, (), trivial, ?_, trivial⟩
  exact or_two16 _ _ (okB_getD hb 0) (okB_getD hb 1)
theorem GI1 : Goods Try.prog I1 := goods_cons (good_of_owes hM hP GI0 Try.func32 rfl (o_sum ▸ p_sum)) (goods_cons (good_of_owes hM hP GI0 Try.func120 rfl (o_word ▸ p_word)) GI0)
theorem p_check : T_check := by
  rintro b ⟨hb, hl⟩
  exact ⟨b, rfl, rfl, ⟨hb, hl⟩, fun _ _ => ⟨(), trivial, rfl, trivial⟩⟩
theorem p_patch : T_patch := by
  rintro ⟨s, w, i⟩ ⟨h1, h2, h3⟩
  dsimp only at h1 h2 h3 ⊢
  rw [not_u16 s h1.1 h1.2, not_u16 w h2.1 h2.2]
  have fr := foldZ_range ((65535 - s) + (65535 - w) + i)
  refine ⟨(65535 - s) + (65535 - w) + i, by omega, ⟨by omega, by omega⟩, fun _ _ => ⟨(), trivial, ?_, trivial⟩⟩
  rw [not_u16 _ fr.1 fr.2]
  rfl
theorem mid_two {α : Type} (l : List α) (i : Nat) (h : i + 2 ≤ l.length) (a b : α) : mid l i [a, b] = (l.set i a).set (i + 1) b := by
  have e1 : l.set i a = l.take i ++ a :: l.drop (i + 1) := by rw [List.set_eq_take_append_cons_drop, if_pos (by omega)]
  rw [e1, List.set_append, if_neg (by rw [List.length_take]; omega), List.length_take, Nat.min_eq_left (by omega), Nat.add_sub_cancel_left, List.set_cons_succ, List.drop_eq_getElem_cons (by omega : i + 1 < l.length), List.set_cons_zero]
  rfl
theorem put2_length (b : List Int) (i : Nat) (w : Int) : (put2 b i w).length = b.length := by simp [put2]
theorem sumZ_range (b : List Int) : 0 ≤ sumZ b ∧ sumZ b ≤ 65535 := by have := foldZ_range (wsum b); unfold sumZ; omega
theorem okB_set {b : List Int} (h : okB b) (i : Nat) {x : Int} (hx : 0 ≤ x ∧ x ≤ 255) : okB (b.set i x) := fun y hy => by
  rcases List.mem_or_eq_of_mem_set hy with h' | rfl
  · exact h y h'
  · exact hx
theorem okB_put2 {b : List Int} (h : okB b) (i : Nat) {w : Int} (hw : 0 ≤ w ∧ w ≤ 65535) : okB (put2 b i w) := okB_set (okB_set h _ ⟨by omega, by omega⟩) _ ⟨by omega, by omega⟩
theorem p_fill : T_fill := by
  rintro ⟨b, at_⟩ ⟨hb, hl, h1, h2⟩
  have hb : okB b := hb
  have hl : b.length ≤ 1000000 := hl
  dsimp only at h1 h2 ⊢
  have no : fillB b at_ = false → ∃ y : Unit, True ∧ b.length = (fillZ b at_).length ∧ false = fillB b at_ ∧ b = fillZ b at_ ∧ True := fun h => by
    have e : fillZ b at_ = b := if_neg (by rw [h]; decide)
    rw [e, h]
    exact ⟨(), trivial, rfl, rfl, rfl, trivial⟩
  refine ⟨b, rfl, rfl, hl, fun _ _ => ifB_d (fun h => no ?_) fun h => ifB_d (fun h' => no ?_) fun h' => ⟨by omega, ifB_d (fun h'' => no ?_) fun h'' => ?_⟩⟩
  · have : decide (0 ≤ at_) = false := by simp; omega
    simp [fillB, this]
  · rw [and_one at_ (by omega) h2] at h'
    have : decide (at_ % 2 = 0) = false := by simp; omega
    simp [fillB, this]
  · have : decide (at_ < (b.length : Int) - 1) = false := by simp; omega
    simp [fillB, this]
  · rw [and_one at_ (by omega) h2] at h'
    have hf : fillB b at_ = true := by
      have e1 : decide (0 ≤ at_) = true := by simp; omega
      have e2 : decide (at_ % 2 = 0) = true := by simp; omega
      have e3 : decide (at_ < (b.length : Int) - 1) = true := by simp; omega
      simp [fillB, e1, e2, e3]
    have e : fillZ b at_ = put2 b at_.toNat (sumZ (put2 b at_.toNat 0)) := if_pos hf
    have hm : mid b at_.toNat (List.replicate ((at_ + 2).toNat - at_.toNat) 0) = put2 b at_.toNat 0 := by
      rw [show (at_ + 2).toNat - at_.toNat = 2 by omega]
      exact mid_two b at_.toNat (by omega) 0 0
    rw [hm, hf, e]
    have hs := sumZ_range (put2 b at_.toNat 0)
    refine ⟨by omega, by omega, put2 b at_.toNat 0, (put2_length _ _ _).symm, rfl, ⟨okB_put2 hb _ (by omega), by show _ ≤ 1000000; rw [put2_length]; exact hl⟩, fun _ _ => ⟨by omega, by omega, by omega, (), trivial, (put2_length _ _ _).symm, rfl, ?_, trivial⟩⟩
    rw [Nat.add_zero, Int.emod_eq_of_lt (a := sumZ _ / 256) (by omega) (by omega)]
    unfold put2
    rw [List.set_comm (i := at_.toNat + 1) (j := at_.toNat) _ _ (by omega), List.set_set, List.set_set]
theorem p_readh : T_readh := by
  rintro b ⟨hb, hl⟩
  have hb : okB b := hb
  have hl : 20 ≤ b.length := hl
  have b0 := okB_getD hb 0
  rw [and_nib _ b0.1 b0.2, List.take_length]
  refine ⟨by omega, by omega, by omega, by omega, by omega, and_self_of ⟨b.drop 2, by rw [List.length_drop], rfl, ⟨okB_drop hb 2, by rw [List.length_drop]; omega⟩, fun _ _ => ⟨by omega, (b.drop 12).take 4, by rw [List.length_take, List.length_drop]; omega, by rw [List.drop_take], okB_take (okB_drop hb _) _, fun _ _ => ⟨by omega, (b.drop 16).take 4, by rw [List.length_take, List.length_drop]; omega, by rw [List.drop_take], okB_take (okB_drop hb _) _, fun _ _ => ⟨(), trivial, rfl, ?_, rfl, rfl, ?_⟩⟩⟩⟩⟩
  · show (b.drop 2).getD 0 0 * 256 + (b.drop 2).getD 1 0 = b.getD 2 0 * 256 + b.getD 3 0
    simp only [List.getD_eq_getElem?_getD, List.getElem?_drop]
  · rw [fromE_ok (b := (b.drop 12).take 4) (by rw [List.length_take, List.length_drop]; omega), fromE_ok (b := (b.drop 16).take 4) (by rw [List.length_take, List.length_drop]; omega)]
    exact ⟨rfl, rfl, rfl, rfl, rfl, rfl, trivial⟩
theorem GI2 : Goods Try.prog I2 := goods_cons (good_of_owes hM hP GI1 Try.func34 rfl (o_check ▸ p_check)) (goods_cons (good_of_owes hM hP GI1 Try.func35 rfl (o_patch ▸ p_patch)) (goods_cons (good_of_owes hM hP GI1 Try.func36 rfl (o_fill ▸ p_fill)) (goods_cons (good_of_owes hM hP GI1 Try.func115 rfl (o_readh ▸ p_readh)) GI1)))
theorem out_bad {q : Hd × Int} {k : Int} (e : q = (zH, k)) : ∃ y : Unit, True ∧ 0 = q.1.1 ∧ 0 = q.1.2.1 ∧ 0 = q.1.2.2.1 ∧ 0 = q.1.2.2.2.1 ∧ 0 = q.1.2.2.2.2.1 ∧ 0 = q.1.2.2.2.2.2.1 ∧ false = q.1.2.2.2.2.2.2.1 ∧ 0 = q.1.2.2.2.2.2.2.2.1 ∧ 0 = q.1.2.2.2.2.2.2.2.2.1 ∧ false = q.1.2.2.2.2.2.2.2.2.2 ∧ k = q.2 ∧ True := by
  subst e
  exact ⟨(), trivial, rfl, rfl, rfl, rfl, rfl, rfl, rfl, rfl, rfl, rfl, rfl, trivial⟩
theorem p_parse4 : T_parse4 := by
  rintro b hb
  have hb : okB b := hb
  have hl : (readH b).1 ≤ 60 := by show b.getD 0 0 % 16 * 4 ≤ 60; omega
  refine ifB_d (fun h1 => out_bad ?_) fun h1 => ⟨b, rfl, rfl, ⟨hb, by omega⟩, fun _ _ => ⟨by omega, by omega, ifB_nd (fun h2 => out_bad ?_) fun h2 => ifB_d (fun h3 => out_bad ?_) fun h3 => ifB_d (fun h4 => out_bad ?_) fun h4 => ifB_d (fun h5 => out_bad ?_) fun h5 => ifB_d (fun h6 => out_bad ?_) fun h6 => ⟨by omega, b.take (readH b).1.toNat, by rw [List.length_take]; omega, rfl, ⟨okB_take hb _, by show _ ≤ 1000000; rw [List.length_take]; omega⟩, fun _ _ => ifB_nd (fun h7 => out_bad ?_) fun h7 => ⟨by omega, by omega, ifB_d (fun h8 => out_bad ?_) fun h8 => ifB_d (fun h9 => out_bad ?_) fun h9 => ifB_d (fun h10 => out_bad ?_) fun h10 => ?_⟩⟩⟩⟩
  · exact if_pos (by omega)
  · unfold parse4; rw [if_neg (by omega), if_pos h2]
  · unfold parse4; rw [if_neg (by omega), if_neg (by omega), if_pos (.inl h3)]
  · unfold parse4; rw [if_neg (by omega), if_neg (by omega), if_pos (.inr h4)]
  · unfold parse4; rw [if_neg (by omega), if_neg (by omega), if_neg (by omega), if_pos (.inl h5)]
  · unfold parse4; rw [if_neg (by omega), if_neg (by omega), if_neg (by omega), if_pos (.inr h6)]
  · unfold parse4; rw [if_neg (by omega), if_neg (by omega), if_neg (by omega), if_neg (by omega), if_pos h7]
  · unfold parse4; rw [if_neg (by omega), if_neg (by omega), if_neg (by omega), if_neg (by omega), if_neg (by simpa using h7), if_pos (by rw [h8]; rfl)]
  · unfold parse4; rw [if_neg (by omega), if_neg (by omega), if_neg (by omega), if_neg (by omega), if_neg (by simpa using h7), if_pos (by unfold strangeZ; rw [decide_eq_true h9]; simp)]
  · unfold parse4; rw [if_neg (by omega), if_neg (by omega), if_neg (by omega), if_neg (by omega), if_neg (by simpa using h7), if_pos (by unfold strangeZ; rw [decide_eq_true h10]; simp)]
  · have e : parse4 b = (readH b, 0) := by unfold parse4; rw [if_neg (by omega), if_neg (by omega), if_neg (by omega), if_neg (by omega), if_neg (by simpa using h7), if_neg (by unfold strangeZ; rw [decide_eq_false h8, decide_eq_false h9, decide_eq_false h10]; decide)]
    rw [e]
    exact ⟨(), trivial, rfl, rfl, rfl, rfl, rfl, rfl, rfl, rfl, rfl, rfl, rfl, trivial⟩
theorem GI3 : Goods Try.prog I3 := goods_cons (good_of_owes hM hP GI2 Try.func67 rfl (o_parse4 ▸ p_parse4)) GI2
/-- What is known of a packet that parses. -/
theorem parse4_ok {b : List Int} (h : (parse4 b).2 = 0) : (parse4 b).1 = readH b ∧ 20 ≤ b.length ∧ b.getD 0 0 / 16 = 4 ∧ 20 ≤ (readH b).1 ∧ (readH b).1 ≤ b.length ∧ (readH b).1 ≤ (readH b).2.1 ∧ (readH b).2.1 ≤ b.length ∧ sumZ (b.take (readH b).1.toNat) = 0 ∧ strangeZ (b.getD 12 0) (b.getD 16 0) = false := by
  unfold parse4 at h ⊢
  by_cases c1 : b.length < 20
  · rw [if_pos c1] at h; exact absurd h (by decide)
  rw [if_neg c1] at h ⊢
  by_cases c2 : b.getD 0 0 / 16 ≠ 4
  · rw [if_pos c2] at h; exact absurd h (by simp)
  rw [if_neg c2] at h ⊢
  by_cases c3 : (readH b).1 < 20 ∨ (b.length : Int) < (readH b).1
  · rw [if_pos c3] at h; exact absurd h (by simp)
  rw [if_neg c3] at h ⊢
  by_cases c4 : (readH b).2.1 < (readH b).1 ∨ (b.length : Int) < (readH b).2.1
  · rw [if_pos c4] at h; exact absurd h (by simp)
  rw [if_neg c4] at h ⊢
  by_cases c5 : sumZ (b.take (readH b).1.toNat) ≠ 0
  · rw [if_pos c5] at h; exact absurd h (by simp)
  rw [if_neg c5] at h ⊢
  by_cases c6 : strangeZ (b.getD 12 0) (b.getD 16 0) = true
  · rw [if_pos c6] at h; exact absurd h (by simp)
  rw [if_neg c6]
  exact ⟨rfl, by omega, by omega, by omega, by omega, by omega, by omega, by omega, by simpa using c6⟩
theorem wordZ_range {b : List Int} (h : okB b) (i : Nat) : 0 ≤ wordZ b i ∧ wordZ b i ≤ 65535 := by
  have := okB_getD h i
  have := okB_getD h (i + 1)
  unfold wordZ
  omega
theorem wordZ_drop (b : List Int) (i : Nat) : wordZ (b.drop i) 0 = wordZ b i := by
  unfold wordZ
  simp only [List.getD_eq_getElem?_getD, List.getElem?_drop, Nat.add_zero, Nat.zero_add]
theorem getD_take {b : List Int} {n i : Nat} (h : i < n) : (b.take n).getD i 0 = b.getD i 0 := by
  rw [List.getD_eq_getElem?_getD, List.getElem?_take, if_pos h, List.getD_eq_getElem?_getD]
theorem getD_set_ne {b : List Int} {i j : Nat} (h : i ≠ j) (x : Int) : (b.set i x).getD j 0 = b.getD j 0 := by
  rw [List.getD_eq_getElem?_getD, List.getElem?_set_ne h, List.getD_eq_getElem?_getD]
theorem getD_set_eq {b : List Int} {i : Nat} (h : i < b.length) (x : Int) : (b.set i x).getD i 0 = x := by
  rw [List.getD_eq_getElem?_getD, List.getElem?_set_self h]; rfl
theorem p_hop4 : T_hop4 := by
  rintro b ⟨hb, hl⟩
  have hb : okB b := hb
  have hl : b.length ≤ 1000000 := hl
  have no : ((parse4 b).2 ≠ 0 ∨ (parse4 b).1.2.2.1 < 2) → ∃ y : Unit, True ∧ 0 = (hop4 b).1.length ∧ false = (hop4 b).2 ∧ [] = (hop4 b).1 ∧ True := fun h => by
    have e : hop4 b = ([], false) := if_pos h
    rw [e]
    exact ⟨(), trivial, rfl, rfl, rfl, trivial⟩
  refine ⟨b, rfl, rfl, hb, fun _ _ => ifB_nd (fun h => no (.inl h)) fun h => ifB_d (fun h' => no (.inr h')) fun h' => ?_⟩
  obtain ⟨e1, e2, e3, e4, e5, e6, e7, e8, e9⟩ := parse4_ok h
  have hT : ∃ T : Nat, (readH b).2.1 = T := ⟨(readH b).2.1.toNat, by omega⟩
  obtain ⟨T, hT⟩ := hT
  have eh : hop4 b = (put2 ((b.take (readH b).2.1.toNat).set 8 ((readH b).2.2.1 - 1)) 10 (patchZ (wordZ b 10) (wordZ b 8) (wordZ b 8 - 256)), true) := by
    unfold hop4
    rw [if_neg (by omega), e1]
  rw [e1] at h' ⊢
  rw [eh, hT, Int.toNat_natCast]
  have hT20 : 20 ≤ T := by omega
  have hTl : T ≤ b.length := by omega
  have b8 := okB_getD hb 8
  have h8 : (readH b).2.2.1 = b.getD 8 0 := rfl
  have g8 : (b.take T).getD 8 0 = b.getD 8 0 := getD_take (by omega)
  have hlt : (b.take T).length = T := by rw [List.length_take]; omega
  have hot := okB_take hb T
  have hdec : (b.getD 8 0 - 1) % 256 = b.getD 8 0 - 1 := by omega
  have hos : okB ((b.take T).set 8 (b.getD 8 0 - 1)) := okB_set hot _ ⟨by omega, by omega⟩
  have hls : ((b.take T).set 8 (b.getD 8 0 - 1)).length = T := by rw [List.length_set, hlt]
  have tk : ∀ l : List Int, l.length = T → l.take T = l := fun l h => List.take_of_length_le (by omega)
  rw [h8] at h'
  refine ⟨by omega, b.take T, by rw [hlt]; omega, rfl, by show _ ≤ 1000000; omega, fun _ _ => ?_⟩
  rw [hlt, g8, hdec, tk _ hlt, tk _ hls, h8]
  have w8 := wordZ_range hb 8
  have w10 := wordZ_range hb 10
  have v3 : wordZ ((b.take T).drop 8) 0 = wordZ b 8 := by
    rw [wordZ_drop]
    unfold wordZ
    rw [g8, getD_take (by omega)]
  have v4 : wordZ (((b.take T).set 8 (b.getD 8 0 - 1)).drop 10) 0 = wordZ b 10 := by
    rw [wordZ_drop]
    unfold wordZ
    rw [getD_set_ne (by omega), getD_set_ne (by omega), getD_take (by omega), getD_take (by omega)]
  have v5 : wordZ (((b.take T).set 8 (b.getD 8 0 - 1)).drop 8) 0 = wordZ b 8 - 256 := by
    rw [wordZ_drop]
    unfold wordZ
    rw [getD_set_eq (by omega), getD_set_ne (by omega), getD_take (by omega)]
    omega
  have pr := foldZ_range ((65535 - wordZ b 10) + (65535 - wordZ b 8) + (wordZ b 8 - 256))
  have w8' : 256 ≤ wordZ b 8 := by have := okB_getD hb (8 + 1); unfold wordZ; omega
  refine ⟨by omega, (b.take T).drop 8, by rw [List.length_drop, hlt], rfl, ⟨okB_drop hot 8, by rw [List.length_drop]; omega⟩, fun _ _ => ⟨by omega, by omega, by omega, by omega, by omega, ((b.take T).set 8 (b.getD 8 0 - 1)).drop 10, by rw [List.length_drop, hls], rfl, ⟨okB_drop hos 10, by rw [List.length_drop]; omega⟩, fun _ _ => ⟨((b.take T).set 8 (b.getD 8 0 - 1)).drop 8, by rw [List.length_drop, hls], rfl, ⟨okB_drop hos 8, by rw [List.length_drop]; omega⟩, fun _ _ => ?_⟩⟩⟩
  rw [v3, v4, v5]
  refine ⟨(wordZ b 10, wordZ b 8, wordZ b 8 - 256), rfl, rfl, rfl, ⟨w10, w8, by simp only; omega⟩, fun _ _ => ⟨by omega, (), trivial, by rw [put2_length, hls], rfl, ?_, trivial⟩⟩
  dsimp only
  generalize hpz : patchZ (wordZ b 10) (wordZ b 8) (wordZ b 8 - 256) = pz
  have hpr : 0 ≤ pz ∧ pz ≤ 65535 := by rw [← hpz]; unfold patchZ; omega
  have : List.take (min [pz / 256 % 256, pz % 256].length (T - 10)) [pz / 256 % 256, pz % 256] = [pz / 256 % 256, pz % 256] := List.take_of_length_le (by simp; omega)
  rw [this, mid_two _ _ (by rw [hls]; omega), Int.emod_eq_of_lt (a := pz / 256) (by omega) (by omega)]
  rfl
theorem list4 {l : List Int} (h : l.length = 4) : ∃ a b c d, l = [a, b, c, d] := by
  match l, h with
  | [a, b, c, d], _ => exact ⟨a, b, c, d, rfl⟩
theorem head4_length (h : Hd) (n : Int) : (head4 h n).length = 20 := by
  unfold head4
  rw [List.length_append, List.length_append, addr4_length, addr4_length]
  rfl
theorem okB_head4 (h : Hd) (n : Int) (h0 : 0 ≤ n) (h1 : n ≤ 65535) : okB (head4 h n) := by
  refine okB_append (okB_append ?_ (okB_addr4 _)) (okB_addr4 _)
  intro x hx
  simp only [List.mem_cons, List.not_mem_nil, or_false] at hx
  omega
theorem p_build4 : T_build4 := by
  rintro ⟨h, body⟩ ⟨⟨hs, hd⟩, hb⟩
  have hs : wfA (hSrc h) := hs
  have hd : wfA (hDst h) := hd
  dsimp only
  generalize hM : (min (body.length : Int) 2028).toNat = M
  have hM2 : min body.length 2028 = M := by omega
  have hMle : M ≤ 2028 := by omega
  rw [Nat.sub_zero]
  have hu : ((20 + (M : Int)) % 65536 / 256 % 256) = (20 + (M : Int)) / 256 := by omega
  have hv : ((20 + (M : Int)) % 65536 % 256) = (20 + (M : Int)) % 256 := by omega
  rw [hu, hv]
  have hbl : (body.take M).length = M := by rw [List.length_take]; omega
  have hbt : body.take 2028 = body.take M := by
    by_cases c : body.length ≤ 2028
    · rw [List.take_of_length_le c, List.take_of_length_le (by omega)]
    · rw [show M = 2028 by omega]
  have fin : ∀ L : List Int, L = head4 h (20 + (M : Int)) → ∃ x : List Int, 20 = x.length ∧ L = x ∧ (okB x ∧ x.length ≤ most) ∧ ∀ y : Unit, True → (0 : Int) ≤ 8 ∧ ((20 + ((body.take M).drop 0).length) * 1 ≤ 140737488355328 ∧ 20 + ((body.take M).drop 0).length ≤ 140737488355328) ∧ ∃ y : Unit, True ∧ 20 + ((body.take M).drop 0).length = (build4 h body).length ∧ mid L 10 (List.take (min [sumZ x / 256 % 256, sumZ x % 256].length 10) [sumZ x / 256 % 256, sumZ x % 256]) ++ (body.take M).drop 0 = build4 h body ∧ True := by
    rintro L rfl
    have hl := head4_length h (20 + (M : Int))
    have sr := sumZ_range (head4 h (20 + (M : Int)))
    have e : build4 h body = put2 (head4 h (20 + (M : Int))) 10 (sumZ (head4 h (20 + (M : Int)))) ++ body.take M := by
      unfold build4
      rw [hM2, hbt]
    refine ⟨_, hl.symm, rfl, ⟨okB_head4 h _ (by omega) (by omega), by show _ ≤ 1000000; omega⟩, fun _ _ => ⟨by omega, by rw [List.drop_zero, hbl]; omega, (), trivial, ?_, ?_, trivial⟩⟩
    · rw [e, List.length_append, put2_length, hl, List.drop_zero]
    · rw [e, List.drop_zero, show List.take (min [sumZ (head4 h (20 + (M : Int))) / 256 % 256, sumZ (head4 h (20 + (M : Int))) % 256].length 10) [sumZ (head4 h (20 + (M : Int))) / 256 % 256, sumZ (head4 h (20 + (M : Int))) % 256] = [sumZ (head4 h (20 + (M : Int))) / 256 % 256, sumZ (head4 h (20 + (M : Int))) % 256] from rfl, mid_two _ _ (by omega), Int.emod_eq_of_lt (a := sumZ _ / 256) (by omega) (by omega)]
      rfl
  have a4 : ∀ a : Ad, a.2.2 = false → bytesA a = addr4 a := fun a ha => by unfold addr4; rw [if_neg (by simp [ha])]
  have z4 : ∀ a : Ad, a.2.2 = true → addr4 a = [0, 0, 0, 0] := fun a ha => by unfold addr4; rw [if_pos ha]
  obtain ⟨s0, s1, s2, s3, es⟩ := list4 (addr4_length (hSrc h))
  obtain ⟨d0, d1, d2, d3, ed⟩ := list4 (addr4_length (hDst h))
  have hh : head4 h (20 + (M : Int)) = [69, 0, (20 + (M : Int)) / 256, (20 + (M : Int)) % 256, 0, 0, 0, 0, h.2.2.1 % 256, h.2.2.2.1 % 256, 0, 0, s0, s1, s2, s3, d0, d1, d2, d3] := by
    unfold head4
    rw [es, ed]
    rfl
  refine ⟨by omega, by omega, by omega, by omega, by omega, by omega, by omega, by omega, by omega, by omega, ?_⟩
  cases hsv : (hSrc h).2.2 with
  | false =>
    have e1 := a4 _ hsv
    refine ifB_tb (by rw [Bool.not_eq_true']; exact hsv) ⟨by omega, by omega, by omega, hSrc h, rfl, rfl, rfl, hs, fun _ _ => ⟨by omega, by omega, ?_⟩⟩
    rw [e1, es]
    rcases Bool.eq_false_or_eq_true (hDst h).2.2 with hdv | hdv
    rotate_left
    · have _u := ()
      have e2 := a4 _ hdv
      refine ifB_tb (by rw [Bool.not_eq_true']; exact hdv) ⟨by omega, by omega, by omega, hDst h, rfl, rfl, rfl, hd, fun _ _ => ⟨by omega, by omega, ?_⟩⟩
      rw [e2, ed]
      exact fin _ (by rw [hh]; rfl)
    · have e2 := z4 _ hdv
      rw [ed] at e2
      refine ifB_fb (by rw [Bool.not_eq_false']; exact hdv) ⟨by omega, by omega, fin _ ?_⟩
      rw [hh]
      obtain ⟨rfl, rfl, rfl, rfl⟩ : d0 = 0 ∧ d1 = 0 ∧ d2 = 0 ∧ d3 = 0 := by simpa using e2
      rfl
  | true =>
    have e1 := z4 _ hsv
    rw [es] at e1
    obtain ⟨rfl, rfl, rfl, rfl⟩ : s0 = 0 ∧ s1 = 0 ∧ s2 = 0 ∧ s3 = 0 := by simpa using e1
    refine ifB_fb (by rw [Bool.not_eq_false']; exact hsv) ⟨by omega, by omega, ?_⟩
    rcases Bool.eq_false_or_eq_true (hDst h).2.2 with hdv | hdv
    rotate_left
    · have _u := ()
      have e2 := a4 _ hdv
      refine ifB_tb (by rw [Bool.not_eq_true']; exact hdv) ⟨by omega, by omega, by omega, hDst h, rfl, rfl, rfl, hd, fun _ _ => ⟨by omega, by omega, ?_⟩⟩
      rw [e2, ed]
      exact fin _ (by rw [hh]; rfl)
    · have e2 := z4 _ hdv
      rw [ed] at e2
      refine ifB_fb (by rw [Bool.not_eq_false']; exact hdv) ⟨by omega, by omega, fin _ ?_⟩
      rw [hh]
      obtain ⟨rfl, rfl, rfl, rfl⟩ : d0 = 0 ∧ d1 = 0 ∧ d2 = 0 ∧ d3 = 0 := by simpa using e2
      rfl
theorem GI4 : Goods Try.prog I4 := goods_cons (good_of_owes hM hP GI3 Try.func78 rfl (o_hop4 ▸ p_hop4)) (goods_cons (good_of_owes hM hP GI3 Try.func65 rfl (o_build4 ▸ p_build4)) GI3)
end Sp
