/- Plain laws of layer 21. Nothing of the program stands here. -/
import Derived.Test.YtcilcmbailoeaaaSpI6p
set_option linter.all false
set_option maxRecDepth 10000
namespace Sp
open Go
theorem read6_take {b c : List Int} (h : c.take 40 = b.take 40) : read6 c = read6 b := by
  have g : ∀ i, i < 40 → c.getD i 0 = b.getD i 0 := fun i hi => by rw [← getD_take hi, h, getD_take hi]
  have d : ∀ i, i + 16 ≤ 40 → (c.drop i).take 16 = (b.drop i).take 16 := fun i hi => by
    have e : ∀ l : List Int, (l.drop i).take 16 = ((l.take 40).drop i).take 16 := fun l => by
      rw [List.drop_take, List.take_take, Nat.min_eq_left (by omega)]
    rw [e, h, ← e]
  unfold read6 wordZ
  rw [g 0 (by omega), g 1 (by omega), g 2 (by omega), g 3 (by omega), g 4 (by omega), g (4 + 1) (by omega), g 6 (by omega), g 7 (by omega), d 8 (by omega), d 24 (by omega)]
theorem parse6_bad {b : List Int} (h : (parse6 b).2 ≠ 0) : (parse6 b).1 = z6 ∧ ((parse6 b).2 = 1 ∨ (parse6 b).2 = 2 ∨ (parse6 b).2 = 4 ∨ (parse6 b).2 = 6) := by
  unfold parse6 at h ⊢
  split
  · exact ⟨rfl, .inl rfl⟩
  split
  · exact ⟨rfl, .inr (.inl rfl)⟩
  split
  · exact ⟨rfl, .inr (.inr (.inl rfl))⟩
  split
  · exact ⟨rfl, .inr (.inr (.inr rfl))⟩
  rename_i c1 c2 c3 c4
  rw [if_neg c1, if_neg c2, if_neg c3, if_neg c4] at h
  exact absurd rfl h
theorem parse6_short {b : List Int} : (parse6 b).2 = 1 ↔ b.length < 40 := by
  unfold parse6
  split
  · rename_i c; exact ⟨fun _ => c, fun _ => rfl⟩
  rename_i c
  refine ⟨fun h => ?_, fun h => absurd h c⟩
  split at h
  · cases h
  split at h
  · cases h
  split at h <;> cases h
theorem parse6_intro {b : List Int} (h1 : 40 ≤ b.length) (h2 : b.getD 0 0 / 16 = 6) (h3 : 40 + (read6 b).2.2.1 ≤ b.length) : parse6 b = if strange6 (src6 (read6 b)) (dst6 (read6 b)) = true then (z6, 6) else (read6 b, 0) := by
  unfold parse6
  rw [if_neg (by omega), if_neg (by omega), if_neg (by omega)]
theorem parse6_ext {b c : List Int} (hb : okB b) (h : (parse6 b).2 = 0) (ht : c.take (40 + (read6 b).2.2.1).toNat = b.take (40 + (read6 b).2.2.1).toNat) (hl : 40 + (read6 b).2.2.1 ≤ c.length) : parse6 c = (read6 b, 0) := by
  obtain ⟨e1, e2, e3, e4, e5⟩ := parse6_ok h
  have hr := body_range hb
  have t40 := take_le (m := 40) ht (by omega)
  have hr6 := read6_take t40
  rw [parse6_intro (b := c) (by omega) (by rw [← getD_take (n := 40) (by omega), t40, getD_take (by omega)]; exact e3) (by rw [hr6]; exact hl), hr6, e5]
  rfl
theorem parse6_cut {b : List Int} (hb : okB b) (h : (parse6 b).2 = 0) : (parse6 (b.take (40 + (read6 b).2.2.1 - 1).toNat)).2 = if (read6 b).2.2.1 = 0 then 1 else 4 := by
  obtain ⟨e1, e2, e3, e4, e5⟩ := parse6_ok h
  have hr := body_range hb
  have hl : (b.take (40 + (read6 b).2.2.1 - 1).toNat).length = (40 + (read6 b).2.2.1 - 1).toNat := by rw [List.length_take]; omega
  by_cases c : (read6 b).2.2.1 = 0
  · rw [if_pos c, parse6_short, hl]
    omega
  · rw [if_neg c]
    have hr6 : read6 (b.take (40 + (read6 b).2.2.1 - 1).toNat) = read6 b := read6_take (by rw [List.take_take, Nat.min_eq_left (by omega)])
    unfold parse6
    rw [if_neg (by omega), getD_take (by omega), if_neg (by omega), hr6, hl, if_pos (by omega)]
@[reducible] def hopC6 (b : List Int) : List Int := (b.take (40 + (read6 b).2.2.1).toNat).set 7 ((read6 b).2.2.2.2.1 - 1)
theorem hop6_law {b : List Int} (hb : okB b) (h : (parse6 b).2 = 0) (h2 : 2 ≤ (read6 b).2.2.2.2.1) :
    hop6 b = (hopC6 b, true) ∧ okB (hopC6 b) ∧ (hopC6 b).length = (40 + (read6 b).2.2.1).toNat ∧ (hopC6 b).getD 7 0 = (read6 b).2.2.2.2.1 - 1 ∧ (∀ i, i ≠ 7 → i < (40 + (read6 b).2.2.1).toNat → (hopC6 b).getD i 0 = b.getD i 0) ∧
    parse6 (hopC6 b) = (mk6 (read6 b).1 (read6 b).2.1 (read6 b).2.2.1 (read6 b).2.2.2.1 ((read6 b).2.2.2.2.1 - 1) (src6 (read6 b)) (dst6 (read6 b)), 0) := by
  obtain ⟨e1, e2, e3, e4, e5⟩ := parse6_ok h
  have hr := body_range hb
  have b7 := okB_getD hb 7
  have h7 : (read6 b).2.2.2.2.1 = b.getD 7 0 := rfl
  generalize hN : (40 + (read6 b).2.2.1).toNat = n at *
  have hn : (n : Int) = 40 + (read6 b).2.2.1 := by omega
  have hlt : (b.take n).length = n := by rw [List.length_take]; omega
  have hg : ∀ i, i ≠ 7 → i < n → (hopC6 b).getD i 0 = b.getD i 0 := fun i hi hin => by
    unfold hopC6
    rw [hN, getD_set_ne (Ne.symm hi), getD_take hin]
  have hg7 : (hopC6 b).getD 7 0 = (read6 b).2.2.2.2.1 - 1 := by
    unfold hopC6
    rw [hN, getD_set_eq (by omega)]
  have hlen : (hopC6 b).length = n := by
    unfold hopC6
    rw [List.length_set, hN, hlt]
  have hread : read6 (hopC6 b) = mk6 (read6 b).1 (read6 b).2.1 (read6 b).2.2.1 (read6 b).2.2.2.1 ((read6 b).2.2.2.2.1 - 1) (src6 (read6 b)) (dst6 (read6 b)) := by
    have d : ∀ i, 8 ≤ i → i + 16 ≤ 40 → ((hopC6 b).drop i).take 16 = (b.drop i).take 16 := fun i hi hi2 => by
      unfold hopC6
      rw [hN, List.drop_set_of_lt (by omega), List.drop_take, List.take_take, Nat.min_eq_left (by omega)]
    have e : read6 (hopC6 b) = mk6 (b.getD 0 0 % 16 * 16 + b.getD 1 0 / 16) (b.getD 1 0 % 16 * 65536 + b.getD 2 0 * 256 + b.getD 3 0) (wordZ b 4) (b.getD 6 0) ((hopC6 b).getD 7 0) (fromL ((b.drop 8).take 16)) (fromL ((b.drop 24).take 16)) := by
      unfold read6 wordZ
      rw [hg 0 (by omega) (by omega), hg 1 (by omega) (by omega), hg 2 (by omega) (by omega), hg 3 (by omega) (by omega), hg 4 (by omega) (by omega), hg (4 + 1) (by omega) (by omega), hg 6 (by omega) (by omega), d 8 (by omega) (by omega), d 24 (by omega) (by omega)]
    rw [e, hg7]
    rfl
  refine ⟨?_, okB_set (okB_take hb _) 7 ⟨by omega, by omega⟩, hlen, hg7, hg, ?_⟩
  · unfold hop6
    rw [if_neg (by rw [e1]; omega), e1]
  · rw [parse6_intro (by omega) (by rw [hg 0 (by omega) (by omega)]; exact e3) (by rw [hread, hlen]; show 40 + (read6 b).2.2.1 ≤ _; omega), hread]
    show (if strange6 (src6 (read6 b)) (dst6 (read6 b)) = true then _ else _) = _
    rw [e5]
    rfl
theorem hop6_no {b : List Int} (h : (parse6 b).2 ≠ 0 ∨ (parse6 b).1.2.2.2.2.1 < 2) : hop6 b = ([], false) := if_pos h
theorem okB_build6 (h : H6) {body : List Int} (hb : okB body) : okB (build6 h body) := by
  refine okB_append (okB_append (okB_append ?_ (okB_whole6 _)) (okB_whole6 _)) (okB_take hb _)
  intro x hx
  unfold head6 at hx
  have hm : min body.length 2008 ≤ 2008 := by omega
  generalize h.1 = c at hx
  generalize h.2.1 = f at hx
  generalize h.2.2.2.1 = n at hx
  generalize h.2.2.2.2.1 = l at hx
  simp only [List.mem_cons, List.not_mem_nil, or_false] at hx
  omega
theorem can6 {a : Ad} (hw : wfA a) (h : a.2.2 = true) : canA a = a := by
  have hb : bitsA a = toB 64 a.1.toNat ++ toB 64 a.2.1.toNat := by
    unfold bitsA
    rw [List.take_of_length_le]
    rw [List.length_append, toB_length, toB_length, h]
    decide
  have := (words_eq hw).1 (by
    rw [hb]
    unfold padr
    rw [List.length_append, toB_length, toB_length]
    simp)
  exact of_decide_eq_true this
theorem build6_law (h : H6) {body : List Int} (hw : wfH6 h) (hb : okB body) (hl : body.length ≤ 1500) (hs : (src6 h).2.2 = true) (hd : (dst6 h).2.2 = true) :
    ((build6 h body).length = 40 + body.length ∧ (build6 h body).drop 40 = body) ∧ read6 (build6 h body) = mk6 (h.1 % 256) (h.2.1 % 1048576) body.length (h.2.2.2.1 % 256) (h.2.2.2.2.1 % 256) (src6 h) (dst6 h) ∧
    parse6 (build6 h body) = if strange6 (src6 h) (dst6 h) = true then (z6, 6) else (read6 (build6 h body), 0) := by
  have hm : min body.length 2008 = body.length := by omega
  have e : build6 h body = head6 h body.length ++ whole6 (src6 h) ++ whole6 (dst6 h) ++ body := by
    unfold build6
    rw [hm, List.take_of_length_le (by omega)]
  have h8 : (head6 h body.length).length = 8 := rfl
  have hp : (head6 h body.length ++ whole6 (src6 h) ++ whole6 (dst6 h)).length = 40 := by simp only [List.length_append, whole6_length, h8]
  have hlen : (build6 h body).length = 40 + body.length := by rw [e, List.length_append, hp]
  have hg : ∀ i, i < 8 → (build6 h body).getD i 0 = (head6 h body.length).getD i 0 := fun i hi => by
    rw [e, List.append_assoc, List.append_assoc, List.getD_eq_getElem?_getD, List.getElem?_append_left (by omega), List.getD_eq_getElem?_getD]
  have d8 : ((build6 h body).drop 8).take 16 = whole6 (src6 h) := by
    rw [e, List.append_assoc, List.append_assoc, List.drop_left' h8, List.take_left' (whole6_length _)]
  have d24 : ((build6 h body).drop 24).take 16 = whole6 (dst6 h) := by
    rw [e, List.append_assoc, List.drop_left' (by simp only [List.length_append, whole6_length, h8]), List.take_left' (whole6_length _)]
  have fs : ∀ a : Ad, wfA a → a.2.2 = true → fromL (whole6 a) = a := fun a w v => by
    unfold whole6
    rw [if_pos v, fromL_bytesA, can6 w v]
  have hread : read6 (build6 h body) = mk6 (h.1 % 256) (h.2.1 % 1048576) body.length (h.2.2.2.1 % 256) (h.2.2.2.2.1 % 256) (src6 h) (dst6 h) := by
    unfold read6 wordZ
    rw [hg 0 (by omega), hg 1 (by omega), hg 2 (by omega), hg 3 (by omega), hg 4 (by omega), hg (4 + 1) (by omega), hg 6 (by omega), hg 7 (by omega), d8, d24, fs _ hw.1 hs, fs _ hw.2 hd]
    have a1 : (96 + h.1 % 256 / 16) % 16 * 16 + (h.1 % 16 * 16 + h.2.1 % 1048576 / 65536) / 16 = h.1 % 256 := by omega
    have a2 : (h.1 % 16 * 16 + h.2.1 % 1048576 / 65536) % 16 * 65536 + h.2.1 / 256 % 256 * 256 + h.2.1 % 256 = h.2.1 % 1048576 := by omega
    have a3 : (body.length : Int) / 256 * 256 + (body.length : Int) % 256 = body.length := by omega
    show mk6 ((96 + h.1 % 256 / 16) % 16 * 16 + (h.1 % 16 * 16 + h.2.1 % 1048576 / 65536) / 16) ((h.1 % 16 * 16 + h.2.1 % 1048576 / 65536) % 16 * 65536 + h.2.1 / 256 % 256 * 256 + h.2.1 % 256) ((body.length : Int) / 256 * 256 + (body.length : Int) % 256) _ _ _ _ = _
    rw [a1, a2, a3]
    rfl
  refine ⟨⟨hlen, by rw [e, List.drop_left' hp]⟩, hread, ?_⟩
  have hb2 : (read6 (build6 h body)).2.2.1 = body.length := by rw [hread]
  rw [parse6_intro (by omega) (by rw [hg 0 (by omega)]; show (96 + h.1 % 256 / 16) / 16 = 6; omega) (by rw [hb2, hlen]; omega), hread]
theorem mask8_lo (a : Ad) : (maskA a 8).2.1 = 0 ∧ (maskA a 8).2.2 = a.2.2 := by
  refine ⟨?_, rfl⟩
  show ((valB (padr 64 (((bitsA a).take 8).drop 64)) : Nat) : Int) = 0
  rw [List.drop_of_length_le (by rw [List.length_take]; omega)]
  decide +kernel
end Sp
