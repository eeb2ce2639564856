/- Plain laws of layer 20. Nothing of the program stands here. -/
import Derived.Test.YtcilcmbailoeaaaSpI4p
set_option linter.all false
set_option maxRecDepth 10000
namespace Sp
open Go
theorem i64_and255 (n : Int) : bits .and .i64 n 255 = n % 256 := by
  have h : (BitVec.ofInt 64 255).toNat = 2 ^ 8 - 1 := by decide
  have key : (BitVec.ofInt 64 n &&& BitVec.ofInt 64 255).toNat = (n % ((2 ^ 64 : Nat) : Int)).toNat % 2 ^ 8 := by
    rw [BitVec.toNat_and, BitVec.toNat_ofInt, h, Nat.and_two_pow_sub_one_eq_mod]
  show IntKind.i64.wrap ((BitVec.ofInt 64 n &&& BitVec.ofInt 64 255).toNat : Nat) = n % 256
  rw [key, IntKind.wrap_i64]
  omega
theorem i64_and65535 (n : Int) : bits .and .i64 n 65535 = n % 65536 := by
  have h : (BitVec.ofInt 64 65535).toNat = 2 ^ 16 - 1 := by decide
  have key : (BitVec.ofInt 64 n &&& BitVec.ofInt 64 65535).toNat = (n % ((2 ^ 64 : Nat) : Int)).toNat % 2 ^ 16 := by
    rw [BitVec.toNat_and, BitVec.toNat_ofInt, h, Nat.and_two_pow_sub_one_eq_mod]
  show IntKind.i64.wrap ((BitVec.ofInt 64 n &&& BitVec.ofInt 64 65535).toNat : Nat) = n % 65536
  rw [key, IntKind.wrap_i64]
  omega
theorem sumZ_zero {b : List Int} : sumZ b = 0 ↔ 0 < wsum b ∧ wsum b % 65535 = 0 := by
  rw [← foldZ_full]
  unfold sumZ
  omega
theorem wsum_put2 {b : List Int} {i : Nat} (he : i % 2 = 0) (hi : i + 1 < b.length) (w : Int) : wsum (put2 b i w) = wsum b + w - wordZ b i := by
  unfold put2 wordZ
  rw [wsum_set _ _ _ (by rw [List.length_set]; exact hi), wsum_set _ _ _ (by omega), getD_set_ne (by omega)]
  have e1 : wt i = 256 := by unfold wt; rw [if_pos he]
  have e2 : wt (i + 1) = 1 := by unfold wt; rw [if_neg (by omega)]
  rw [e1, e2]
  omega
theorem parse4_bad {b : List Int} (h : (parse4 b).2 ≠ 0) : (parse4 b).1 = zH ∧ 1 ≤ (parse4 b).2 ∧ (parse4 b).2 ≤ 6 := by
  unfold parse4 at h ⊢
  split
  · exact ⟨rfl, by decide, by decide⟩
  split
  · exact ⟨rfl, by decide, by decide⟩
  split
  · exact ⟨rfl, by decide, by decide⟩
  split
  · exact ⟨rfl, by decide, by decide⟩
  split
  · exact ⟨rfl, by decide, by decide⟩
  split
  · exact ⟨rfl, by decide, by decide⟩
  rename_i c1 c2 c3 c4 c5 c6
  rw [if_neg c1, if_neg c2, if_neg c3, if_neg c4, if_neg c5, if_neg c6] at h
  exact absurd rfl h
theorem parse4_intro {b : List Int} (h1 : 20 ≤ b.length) (h2 : b.getD 0 0 / 16 = 4) (h3 : 20 ≤ (readH b).1) (h4 : (readH b).1 ≤ b.length) (h5 : (readH b).1 ≤ (readH b).2.1) (h6 : (readH b).2.1 ≤ b.length)
    (h7 : sumZ (b.take (readH b).1.toNat) = 0) : parse4 b = if strangeZ (b.getD 12 0) (b.getD 16 0) = true then (zH, 6) else (readH b, 0) := by
  unfold parse4
  rw [if_neg (by omega), if_neg (by omega), if_neg (by omega), if_neg (by omega), if_neg (by omega)]
theorem readH_take {b c : List Int} (h : c.take 20 = b.take 20) : readH c = readH b := by
  have g : ∀ i, i < 20 → c.getD i 0 = b.getD i 0 := fun i hi => by rw [← getD_take hi, h, getD_take hi]
  have d : ∀ i, i + 4 ≤ 20 → (c.drop i).take 4 = (b.drop i).take 4 := fun i hi => by
    have e : ∀ l : List Int, (l.drop i).take 4 = ((l.take 20).drop i).take 4 := fun l => by
      rw [List.drop_take, List.take_take, Nat.min_eq_left (by omega)]
    rw [e, h, ← e]
  unfold readH wordZ
  rw [g 0 (by omega), g 2 (by omega), g (2 + 1) (by omega), g 8 (by omega), g 9 (by omega), d 12 (by omega), d 16 (by omega)]
theorem take_le {b c : List Int} {m n : Nat} (h : c.take n = b.take n) (hm : m ≤ n) : c.take m = b.take m := by
  have := congrArg (List.take m) h
  rwa [List.take_take, List.take_take, Nat.min_eq_left hm] at this
/-- A packet's head hangs on its own bytes alone. -/
theorem parse4_ext {b c : List Int} (h : (parse4 b).2 = 0) (ht : c.take (readH b).2.1.toNat = b.take (readH b).2.1.toNat) (hl : (readH b).2.1 ≤ c.length) : parse4 c = (readH b, 0) := by
  obtain ⟨e1, e2, e3, e4, e5, e6, e7, e8, e9⟩ := parse4_ok h
  have t20 := take_le (m := 20) ht (by omega)
  have hr := readH_take t20
  have g : ∀ i, i < 20 → c.getD i 0 = b.getD i 0 := fun i hi => by rw [← getD_take hi, t20, getD_take hi]
  have tL := take_le (m := (readH b).1.toNat) ht (by omega)
  rw [parse4_intro (b := c) (by omega) (by rw [g 0 (by omega)]; exact e3) (by rw [hr]; exact e4) (by rw [hr]; omega) (by rw [hr]; exact e6) (by rw [hr]; exact hl) (by rw [hr, tL]; exact e8), g 12 (by omega), g 16 (by omega), e9, hr]
  rfl
/-- One byte less than it tells. -/
theorem parse4_cut {b : List Int} (h : (parse4 b).2 = 0) : (parse4 (b.take ((readH b).2.1.toNat - 1))).2 = if (readH b).2.1 = 20 then 1 else if (readH b).2.1 = (readH b).1 then 3 else 4 := by
  obtain ⟨e1, e2, e3, e4, e5, e6, e7, e8, e9⟩ := parse4_ok h
  by_cases c1 : (readH b).2.1 = 20
  · rw [if_pos c1]
    unfold parse4
    rw [if_pos (by rw [List.length_take]; omega)]
  rw [if_neg c1]
  have hl : (b.take ((readH b).2.1.toNat - 1)).length = (readH b).2.1.toNat - 1 := by rw [List.length_take]; omega
  have hr : readH (b.take ((readH b).2.1.toNat - 1)) = readH b := readH_take (by rw [List.take_take, Nat.min_eq_left (by omega)])
  unfold parse4
  rw [if_neg (by omega), getD_take (by omega), if_neg (by omega), hr, hl]
  by_cases c2 : (readH b).2.1 = (readH b).1
  · rw [if_pos (by omega), if_pos c2]
  · rw [if_neg (by omega), if_pos (by omega), if_neg c2]
/-- A digit turned. -/
theorem xor_turn : ∀ a : Nat, a < 256 → ∀ e : Nat, e < 8 → ((0 ≤ bits .xor .u8 (a : Int) (1 * 2 ^ e % 256) ∧ bits .xor .u8 (a : Int) (1 * 2 ^ e % 256) ≤ 255) ∧ (bits .xor .u8 (a : Int) (1 * 2 ^ e % 256) = a + 2 ^ e ∨ bits .xor .u8 (a : Int) (1 * 2 ^ e % 256) = a - 2 ^ e)) := by decide +kernel
theorem pow_small : ∀ e : Nat, e < 8 → (1 : Int) ≤ 2 ^ e ∧ (2 : Int) ^ e ≤ 128 := by decide +kernel
theorem sum_turn {b : List Int} {i : Nat} {x d : Int} (hi : i < b.length) (hs : sumZ b = 0) (hx : x = b.getD i 0 + d ∨ x = b.getD i 0 - d) (hd : 1 ≤ d ∧ d ≤ 128) : sumZ (b.set i x) ≠ 0 := by
  intro h
  rw [sumZ_zero] at h hs
  rw [wsum_set _ _ _ hi] at h
  have : wt i = 256 ∨ wt i = 1 := by unfold wt; split <;> simp
  generalize wsum b = s at *
  generalize b.getD i 0 = y at *
  rcases this with e | e <;> rw [e] at h <;> omega
theorem parse4_turn {b : List Int} {i : Nat} {x d : Int} (h : (parse4 b).2 = 0) (hi : (i : Int) < (readH b).1) (hx : x = b.getD i 0 + d ∨ x = b.getD i 0 - d) (hd : 1 ≤ d ∧ d ≤ 128) : (parse4 (b.set i x)).2 ≠ 0 ∨ (parse4 (b.set i x)).1.1 ≠ (readH b).1 := by
  by_cases hb : (parse4 (b.set i x)).2 = 0
  · refine .inr fun he => ?_
    obtain ⟨e1, e2, e3, e4, e5, e6, e7, e8, e9⟩ := parse4_ok h
    obtain ⟨f1, f2, f3, f4, f5, f6, f7, f8, f9⟩ := parse4_ok hb
    rw [f1] at he
    rw [he, List.take_set] at f8
    exact sum_turn (by rw [List.length_take]; omega) e8 (by rw [getD_take (by omega)]; exact hx) hd f8
  · exact .inl hb
theorem okB_build4 (h : Hd) {body : List Int} (hb : okB body) : okB (build4 h body) := by
  have := okB_head4 h (20 + (min body.length 2028 : Nat)) (by omega) (by omega)
  exact okB_append (okB_put2 this 10 (sumZ_range _)) (okB_take hb _)
/-- What is built. -/
theorem build4_law (h : Hd) {body : List Int} (hb : okB body) (hl : body.length ≤ 1500) :
    ((build4 h body).length = 20 + body.length ∧ (build4 h body).drop 20 = body ∧ sumZ ((build4 h body).take 20) = 0) ∧
    (readH (build4 h body) = mkH 20 (20 + body.length) (h.2.2.1 % 256) (h.2.2.2.1 % 256) (fromL (addr4 (hSrc h))) (fromL (addr4 (hDst h)))) ∧
    parse4 (build4 h body) = if strangeZ ((build4 h body).getD 12 0) ((build4 h body).getD 16 0) = true then (zH, 6) else (readH (build4 h body), 0) := by
  obtain ⟨s0, s1, s2, s3, hs⟩ := list4 (addr4_length (hSrc h))
  obtain ⟨d0, d1, d2, d3, hd⟩ := list4 (addr4_length (hDst h))
  have hok := okB_head4 h (20 + (min body.length 2028 : Nat)) (by omega) (by omega)
  have hm : min body.length 2028 = body.length := by omega
  rw [hm] at hok
  have hwl := wsum_nonneg
  have hH : head4 h (20 + (body.length : Int)) = [69, 0, (20 + (body.length : Int)) / 256, (20 + (body.length : Int)) % 256, 0, 0, 0, 0, h.2.2.1 % 256, h.2.2.2.1 % 256, 0, 0, s0, s1, s2, s3, d0, d1, d2, d3] := by
    unfold head4
    rw [hs, hd]
    rfl
  have hpos : 0 < wsum (head4 h (20 + (body.length : Int))) := by
    have h2 : okB ((head4 h (20 + (body.length : Int))).drop 2) := okB_drop hok 2
    rw [hH] at h2 ⊢
    have := wsum_nonneg _ h2
    simp only [List.drop_succ_cons, List.drop_zero] at this
    rw [wsum]
    omega
  have hlen : (head4 h (20 + (body.length : Int))).length = 20 := head4_length _ _
  have hsum : sumZ (put2 (head4 h (20 + (body.length : Int))) 10 (sumZ (head4 h (20 + (body.length : Int))))) = 0 := by
    rw [sumZ_zero, wsum_put2 (by decide) (by omega)]
    have : wordZ (head4 h (20 + (body.length : Int))) 10 = 0 := by rw [hH]; rfl
    rw [this]
    unfold sumZ foldZ
    rw [if_neg (by omega)]
    omega
  have e : build4 h body = put2 (head4 h (20 + (body.length : Int))) 10 (sumZ (head4 h (20 + (body.length : Int)))) ++ body := by
    unfold build4
    rw [hm, List.take_of_length_le (by omega)]
  generalize hw : sumZ (head4 h (20 + (body.length : Int))) = w at *
  generalize hp : put2 (head4 h (20 + (body.length : Int))) 10 w = p at *
  have hpl : p.length = 20 := by rw [← hp, put2_length, hlen]
  have t20 : (build4 h body).take 20 = p := by rw [e, List.take_append_of_le_length (by omega), List.take_of_length_le (by omega)]
  have hpe : p = [69, 0, (20 + (body.length : Int)) / 256, (20 + (body.length : Int)) % 256, 0, 0, 0, 0, h.2.2.1 % 256, h.2.2.2.1 % 256, w / 256, w % 256, s0, s1, s2, s3, d0, d1, d2, d3] := by
    rw [← hp, hH]
    rfl
  have hr : readH (build4 h body) = mkH 20 (20 + body.length) (h.2.2.1 % 256) (h.2.2.2.1 % 256) (fromL (addr4 (hSrc h))) (fromL (addr4 (hDst h))) := by
    rw [readH_take (b := p) (by rw [t20, List.take_of_length_le (by omega)]), hs, hd, hpe]
    have : ((20 + (body.length : Int)) / 256) * 256 + (20 + (body.length : Int)) % 256 = 20 + body.length := by omega
    show mkH (69 % 16 * 4) (((20 + (body.length : Int)) / 256) * 256 + (20 + (body.length : Int)) % 256) _ _ _ _ = _
    rw [this]
    rfl
  have hl2 : (build4 h body).length = 20 + body.length := by rw [e, List.length_append, hpl]
  refine ⟨⟨hl2, by rw [e, List.drop_append_of_le_length (by omega), List.drop_of_length_le (by omega), List.nil_append], by rw [t20]; exact hsum⟩, hr, ?_⟩
  have hr1 : (readH (build4 h body)).1 = 20 := by rw [hr]
  have hr2 : (readH (build4 h body)).2.1 = 20 + body.length := by rw [hr]
  refine parse4_intro (by omega) ?_ (by omega) (by omega) (by omega) (by omega) ?_
  · rw [← getD_take (n := 20) (by omega), t20, hpe]
    rfl
  · rw [hr1, show (20 : Int).toNat = 20 from rfl, t20]
    exact hsum
theorem put2_put2 {b : List Int} {i : Nat} (v w : Int) : put2 (put2 b i v) i w = put2 b i w := by
  unfold put2
  rw [List.set_comm _ _ (show i ≠ i + 1 by omega), List.set_set, List.set_comm _ _ (show i + 1 ≠ i by omega), List.set_set]
theorem wsum_head {b : List Int} (h : okB b) : b.getD 0 0 * 256 ≤ wsum b := by
  cases b with
  | nil => decide
  | cons x l => cases l with
    | nil => simp [wsum]
    | cons y m =>
      have h1 := h y (by simp)
      have h2 := wsum_nonneg m fun z hz => h z (by simp [hz])
      show x * 256 ≤ x * 256 + y + wsum m
      omega
@[reducible] def hopC (b : List Int) (n : Nat) : List Int := put2 ((b.take n).set 8 (b.getD 8 0 - 1)) 10 (patchZ (wordZ b 10) (wordZ b 8) (wordZ b 8 - 256))
theorem hopC_take {b : List Int} {m n : Nat} (h : m ≤ n) : (hopC b n).take m = hopC b m := by
  unfold hopC put2
  rw [List.take_set, List.take_set, List.take_set, List.take_take, Nat.min_eq_left h]
theorem hopC_get {b : List Int} {n i : Nat} (h : i ≠ 8) (h1 : i ≠ 10) (h2 : i ≠ 11) (hn : i < n) : (hopC b n).getD i 0 = b.getD i 0 := by
  unfold hopC put2
  rw [getD_set_ne (by omega), getD_set_ne (by omega), getD_set_ne (by omega), getD_take hn]
theorem hopC_get8 {b : List Int} {n : Nat} (hn : 8 < n) (hb : n ≤ b.length) : (hopC b n).getD 8 0 = b.getD 8 0 - 1 := by
  unfold hopC put2
  rw [getD_set_ne (by omega), getD_set_ne (by omega), getD_set_eq (by rw [List.length_take]; omega)]
theorem patchZ_range (s w i : Int) (h : 0 < (65535 - s) + (65535 - w) + i) : 0 ≤ patchZ s w i ∧ patchZ s w i ≤ 65534 ∧ (patchZ s w i + ((65535 - s) + (65535 - w) + i)) % 65535 = 0 := by
  unfold patchZ foldZ
  rw [if_neg (by omega)]
  omega
theorem hop4_law {b : List Int} (hb : okB b) (h : (parse4 b).2 = 0) (h2 : 2 ≤ (readH b).2.2.1) :
    hop4 b = (hopC b (readH b).2.1.toNat, true) ∧ okB (hopC b (readH b).2.1.toNat) ∧ (hopC b (readH b).2.1.toNat).length = (readH b).2.1.toNat ∧
    parse4 (hopC b (readH b).2.1.toNat) = (mkH (readH b).1 (readH b).2.1 ((readH b).2.2.1 - 1) (readH b).2.2.2.1 (hSrc (readH b)) (hDst (readH b)), 0) ∧
    fillZ ((hopC b (readH b).2.1.toNat).take (readH b).1.toNat) 10 = (hopC b (readH b).2.1.toNat).take (readH b).1.toNat := by
  obtain ⟨e1, e2, e3, e4, e5, e6, e7, e8, e9⟩ := parse4_ok h
  have h8 : (readH b).2.2.1 = b.getD 8 0 := rfl
  have w8 := wordZ_range hb 8
  have w10 := wordZ_range hb 10
  have b8 := okB_getD hb 8
  have b9 := okB_getD hb (8 + 1)
  have hp := patchZ_range (wordZ b 10) (wordZ b 8) (wordZ b 8 - 256) (by omega)
  have hT : ∃ T : Nat, (readH b).2.1 = T := ⟨(readH b).2.1.toNat, by omega⟩
  obtain ⟨T, hT⟩ := hT
  have hL : ∃ L : Nat, (readH b).1 = L := ⟨(readH b).1.toNat, by omega⟩
  obtain ⟨L, hL⟩ := hL
  have elen : ∀ n, n ≤ b.length → (hopC b n).length = n := fun n hn => by
    unfold hopC
    rw [put2_length, List.length_set, List.length_take]
    omega
  have hok : ∀ n, okB (hopC b n) := fun n => okB_put2 (okB_set (okB_take hb n) _ ⟨by omega, by omega⟩) 10 ⟨by omega, by omega⟩
  have hr : readH (hopC b T) = mkH (readH b).1 (readH b).2.1 ((readH b).2.2.1 - 1) (readH b).2.2.2.1 (hSrc (readH b)) (hDst (readH b)) := by
    have d : ∀ i, 12 ≤ i → i + 4 ≤ 20 → ((hopC b T).drop i).take 4 = (b.drop i).take 4 := fun i hi hi2 => by
      unfold hopC put2
      rw [List.drop_set_of_lt (by omega), List.drop_set_of_lt (by omega), List.drop_set_of_lt (by omega), List.drop_take, List.take_take, Nat.min_eq_left (by omega)]
    unfold readH wordZ
    rw [hopC_get (by omega) (by omega) (by omega) (by omega), hopC_get (by omega) (by omega) (by omega) (by omega), hopC_get (by omega) (by omega) (by omega) (by omega), hopC_get8 (by omega) (by omega), hopC_get (by omega) (by omega) (by omega) (by omega), d 12 (by omega) (by omega), d 16 (by omega) (by omega)]
  have hS := sumZ_zero.1 e8
  rw [hL, Int.toNat_natCast] at hS
  have hlL : (b.take L).length = L := by rw [List.length_take]; omega
  have g8 : (b.take L).getD 8 0 = b.getD 8 0 := getD_take (by omega)
  have gw : wordZ ((b.take L).set 8 (b.getD 8 0 - 1)) 10 = wordZ b 10 := by
    unfold wordZ
    rw [getD_set_ne (by omega), getD_set_ne (by omega), getD_take (by omega), getD_take (by omega)]
  have hA : wsum ((b.take L).set 8 (b.getD 8 0 - 1)) = wsum (b.take L) - 256 := by
    rw [wsum_set _ _ _ (by omega), g8]
    unfold wt
    rw [if_pos (by decide)]
    omega
  have hZ : wsum (put2 ((b.take L).set 8 (b.getD 8 0 - 1)) 10 0) = wsum (b.take L) - 256 - wordZ b 10 := by
    rw [wsum_put2 (by decide) (by rw [List.length_set]; omega), hA, gw]
    omega
  have hR : 0 < wsum (b.take L) - 256 - wordZ b 10 := by
    rw [← hZ]
    have := wsum_head (b := put2 ((b.take L).set 8 (b.getD 8 0 - 1)) 10 0) (okB_put2 (okB_set (okB_take hb L) _ ⟨by omega, by omega⟩) 10 ⟨by omega, by omega⟩)
    have g0 : (put2 ((b.take L).set 8 (b.getD 8 0 - 1)) 10 0).getD 0 0 = b.getD 0 0 := by
      unfold put2
      rw [getD_set_ne (by omega), getD_set_ne (by omega), getD_set_ne (by omega), getD_take (by omega)]
    rw [g0] at this
    omega
  have hC : wsum (hopC b L) = wsum (b.take L) - 256 + patchZ (wordZ b 10) (wordZ b 8) (wordZ b 8 - 256) - wordZ b 10 := by
    unfold hopC
    rw [wsum_put2 (by decide) (by rw [List.length_set]; omega), hA, gw]
  have hs : sumZ (hopC b L) = 0 := by
    rw [sumZ_zero, hC]
    omega
  rw [hT, hL, Int.toNat_natCast, Int.toNat_natCast, hopC_take (by omega)]
  refine ⟨?_, hok T, elen T (by omega), ?_, ?_⟩
  · unfold hop4
    rw [if_neg (by rw [e1]; omega), e1, hT]
    rfl
  · rw [← hT, ← hL, ← hr]
    have hr1 : (readH (hopC b T)).1 = L := by rw [hr]; exact hL
    have hr2 : (readH (hopC b T)).2.1 = T := by rw [hr]; exact hT
    have := parse4_intro (b := hopC b T) (by rw [elen T (by omega)]; omega) (by rw [hopC_get (by omega) (by omega) (by omega) (by omega)]; exact e3) (by omega) (by rw [elen T (by omega)]; omega) (by omega) (by rw [elen T (by omega)]; omega) (by rw [hr1, Int.toNat_natCast, hopC_take (by omega)]; exact hs)
    rw [this, hopC_get (by omega) (by omega) (by omega) (by omega), hopC_get (by omega) (by omega) (by omega) (by omega), e9]
    rfl
  · unfold fillZ
    rw [if_pos (by unfold fillB; rw [elen L (by omega)]; simp; omega)]
    have : sumZ (put2 (hopC b L) 10 0) = patchZ (wordZ b 10) (wordZ b 8) (wordZ b 8 - 256) := by
      unfold hopC
      rw [put2_put2]
      unfold sumZ foldZ
      rw [hZ, if_neg (by omega)]
      omega
    rw [show (10 : Int).toNat = 10 from rfl, this]
    unfold hopC
    rw [put2_put2]
theorem hop4_no {b : List Int} (h : (parse4 b).2 ≠ 0 ∨ (parse4 b).1.2.2.1 < 2) : hop4 b = ([], false) := if_pos h
theorem ifB_nb' {c : Bool} {A B : Prop} (h : c = false) (hA : A) : Sx.ifB (!c) A B := by subst h; exact hA
end Sp
