/- Contracts kept: the document's answer for layer 21; the law that asks it. -/
import Derived.Test.YtcilcmbailoeaaaSpL21rt
set_option linter.all false
set_option maxRecDepth 10000
namespace Sp
open Go Go.Proofs Sx Go.Proofs.Ytcilcmbailoeaaa.Ma
theorem many_of : manyA = ofB true (toB 8 255) := by decide +kernel
theorem many_byte {l : List Int} (hb : okB l) (hl : l.length = 16) : maskA (fromL l) 8 = manyA ↔ l.getD 0 0 = 255 := by
  match l, hl with
  | x :: m, hl =>
    have hx := hb x (by simp)
    have hbl : (bitsL (x :: m)).length = 128 := by rw [bitsL_length, hl]
    have e1 : fromL (x :: m) = ofB true (bitsL (x :: m)) := by unfold fromL; rw [hl]; rfl
    have e2 : maskA (fromL (x :: m)) 8 = ofB true (toB 8 x.toNat) := by
      unfold maskA
      rw [e1, bitsA_ofB_full true (by rw [hbl]; rfl), bitsL_cons]
      show ofB true (List.take 8 (toB 8 x.toNat ++ bitsL m)) = _
      rw [List.take_left' (toB_length 8 _)]
    rw [e2, many_of]
    constructor
    · intro h
      have h1 := ofB_inj (v6 := true) (by rw [toB_length]; decide) (by rw [toB_length]; decide) h
      have h2 := padr_inj (by rw [toB_length, toB_length]) h1
      have h3 := toB_inj (by omega) (by decide) h2
      show x = 255
      omega
    · intro h
      have h : x = 255 := h
      subst h
      rfl
theorem p_rparse6 : T_rparse6 := by
  rintro b ⟨hb, hl⟩
  have hb : okB b := hb
  have hl : b.length ≤ 1000000 := hl
  have k : ∀ i, 0 ≤ b.getD i 0 ∧ b.getD i 0 ≤ 255 := okB_getD hb
  have k0 := k 0
  have k1 := k 1
  have k2 := k 2
  have k3 := k 3
  have k4 := k 4
  have k5 := k 5
  have hbody : (read6 b).2.2.1 = b.getD 4 0 * 256 + b.getD 5 0 := rfl
  refine ifB_d (fun h => out_bad6 (if_pos (by omega))) fun h => ⟨by omega, by omega, ifB_nd (fun h2 => out_bad6 ?_) fun h2 => ⟨by omega, by omega, by omega, by omega, by omega, ifB_d (fun h3 => out_bad6 ?_) fun h3 => ?_⟩⟩
  · unfold parse6; rw [if_neg (by omega), if_pos h2]
  · unfold parse6; rw [if_neg (by omega), if_neg (by omega), if_pos (by omega)]
  have l8 : ((b.drop 8).take 16).length = 16 := by rw [List.length_take, List.length_drop]; omega
  have l24 : ((b.drop 24).take 16).length = 16 := by rw [List.length_take, List.length_drop]; omega
  have g8 : ((b.drop 8).take 16).getD 0 0 = b.getD 8 0 := by rw [getD_take (by omega)]; simp only [List.getD_eq_getElem?_getD, List.getElem?_drop]
  have hm := many_byte (okB_take (okB_drop hb 8) 16) l8
  rw [g8] at hm
  have hs : src6 (read6 b) = fromL ((b.drop 8).take 16) := rfl
  have hd : dst6 (read6 b) = fromL ((b.drop 24).take 16) := rfl
  have vs : (fromL ((b.drop 8).take 16)).2.2 = true := by unfold fromL; rw [l8]; rfl
  have vd : (fromL ((b.drop 24).take 16)).2.2 = true := by unfold fromL; rw [l24]; rfl
  have hp : parse6 b = if strange6 (src6 (read6 b)) (dst6 (read6 b)) = true then (z6, 6) else (read6 b, 0) := parse6_intro (by omega) (by omega) (by omega)
  refine ⟨by omega, (b.drop 8).take 16, l8.symm, by rw [List.drop_take], okB_take (okB_drop hb _) _, fun _ _ => ⟨by omega, (b.drop 24).take 16, l24.symm, by rw [List.drop_take], okB_take (okB_drop hb _) _, fun _ _ => ⟨by omega, ?_⟩⟩⟩
  rw [fromE_ok (b := (b.drop 8).take 16) (by omega), fromE_ok (b := (b.drop 24).take 16) (by omega)]
  rw [hs, hd] at hp
  have er : read6 b = mk6 (b.getD 0 0 % 16 * 16 + b.getD 1 0 / 16) (b.getD 1 0 % 16 * 65536 + b.getD 2 0 * 256 + b.getD 3 0) (b.getD 4 0 * 256 + b.getD 5 0) (b.getD 6 0) (b.getD 7 0) (fromL ((b.drop 8).take 16)) (fromL ((b.drop 24).take 16)) := rfl
  rw [er] at hp
  generalize fromL ((b.drop 8).take 16) = s at *
  generalize fromL ((b.drop 24).take 16) = d at *
  obtain ⟨s1, s2, s3⟩ := s
  obtain ⟨d1, d2, d3⟩ := d
  dsimp only at vs vd
  subst vs
  subst vd
  have bad : strange6 (s1, s2, true) (d1, d2, true) = true → parse6 b = (z6, 6) := fun h => by rw [hp, if_pos h]
  refine ifB_d (fun c => out_bad6 (bad (by unfold strange6; rw [decide_eq_true (hm.2 c)]; rfl))) fun c1 => ?_
  have c1' : decide (maskA (s1, s2, true) 8 = manyA) = false := decide_eq_false fun e => c1 (hm.1 e)
  refine ifB_d (fun c2 => ifB_d (fun c3 => out_bad6 (bad ?_)) fun c3 => ?_) fun c2 => ?_
  · dsimp only at c2 c3
    subst c2 c3
    unfold strange6
    simp
  all_goals
    refine ifB_d (fun c4 => ifB_d (fun c5 => out_bad6 (bad ?_)) fun c5 => ?_) fun c4 => ?_
    · dsimp only at c4 c5
      subst c4 c5
      unfold strange6
      simp
    all_goals
      have e : parse6 b = (mk6 (b.getD 0 0 % 16 * 16 + b.getD 1 0 / 16) (b.getD 1 0 % 16 * 65536 + b.getD 2 0 * 256 + b.getD 3 0) (b.getD 4 0 * 256 + b.getD 5 0) (b.getD 6 0) (b.getD 7 0) (s1, s2, true) (d1, d2, true), 0) := by
        rw [hp, if_neg]
        unfold strange6
        rw [c1']
        simp only [Prod.mk.injEq, and_true, Bool.false_or, Bool.or_eq_true, decide_eq_true_eq]
        dsimp only at *
        omega
      rw [e]
      refine ⟨by omega, by omega, by omega, by omega, by omega, by omega, by omega, by omega, by omega, by omega, by omega, by omega, by omega, by omega, by omega, by omega, (), trivial, rfl, rfl, rfl, rfl, rfl, rfl, rfl, rfl, rfl, rfl, rfl, rfl, trivial⟩
theorem p_rsixteen : T_rsixteen := p_whole6
theorem p_rhop6 : T_rhop6 := by
  rintro b ⟨hb, hl⟩
  have hb : okB b := hb
  have hl : b.length ≤ 1000000 := hl
  have no : ((parse6 b).2 ≠ 0 ∨ (parse6 b).1.2.2.2.2.1 < 2) → ∃ y : Unit, True ∧ 0 = (hop6 b).1.length ∧ false = (hop6 b).2 ∧ [] = (hop6 b).1 ∧ True := fun h => by
    have e : hop6 b = ([], false) := if_pos h
    rw [e]
    exact ⟨(), trivial, rfl, rfl, rfl, trivial⟩
  refine ⟨b, rfl, rfl, ⟨hb, hl⟩, fun _ _ => ifB_nd (fun h => no (.inl h)) fun h => ifB_d (fun h' => no (.inr h')) fun h' => ?_⟩
  obtain ⟨e1, e2, e3, e4, e5⟩ := parse6_ok h
  have hr := body_range hb
  have eh : hop6 b = ((b.take (40 + (read6 b).2.2.1).toNat).set 7 ((read6 b).2.2.2.2.1 - 1), true) := by
    unfold hop6
    rw [if_neg (by omega), e1]
  rw [e1] at h' ⊢
  rw [eh]
  have b7 := okB_getD hb 7
  have h7 : (read6 b).2.2.2.2.1 = b.getD 7 0 := rfl
  have hlt : (b.take (40 + (read6 b).2.2.1).toNat).length = (40 + (read6 b).2.2.1).toNat := by rw [List.length_take]; omega
  simp only [List.nil_append, List.drop_zero, hlt, List.length_set]
  refine ⟨by omega, by omega, by omega, by omega, by omega, (), trivial, by omega, trivial, ?_, trivial⟩
  rw [getD_take (by omega), h7, Int.emod_eq_of_lt (by omega) (by omega)]
theorem p_rbuild6 : T_rbuild6 := by
  rintro ⟨h, body⟩ ⟨hw, hb⟩
  dsimp only at hw hb ⊢
  have hm : (min (body.length : Int) 2008).toNat = min body.length 2008 := by omega
  have hm2 : min body.length 2008 ≤ 2008 ∧ min body.length 2008 ≤ body.length := by omega
  rw [i64_and255, i64_and255, i64_and255, i64_and20, hm]
  have l1 : (body.take (min body.length 2008)).length = min body.length 2008 := by rw [List.length_take]; omega
  have hh : ∀ n : Nat, [(96 + h.1 % 256 / 16) % 256, (h.1 % 256 % 16 * 16 + h.2.1 % 1048576 / 65536) % 256, h.2.1 % 1048576 / 256 % 256 % 256, h.2.1 % 1048576 % 256 % 256, (n : Int) / 256 % 256, (n : Int) % 256 % 256, h.2.2.2.1 % 256 % 256, h.2.2.2.2.1 % 256 % 256] = [96 + h.1 % 256 / 16, h.1 % 16 * 16 + h.2.1 % 1048576 / 65536, h.2.1 / 256 % 256, h.2.1 % 256, (n : Int) / 256 % 256, (n : Int) % 256, h.2.2.2.1 % 256, h.2.2.2.2.1 % 256] := fun n => by
    generalize h.1 = c
    generalize h.2.1 = f
    generalize h.2.2.2.1 = p
    generalize h.2.2.2.2.1 = q
    simp only [List.cons.injEq, and_true]
    exact ⟨by omega, by omega, by omega, by omega, trivial, by omega, by omega, by omega⟩
  rw [hh]
  have hbl : (build6 h body).length = 40 + min body.length 2008 := by
    unfold build6 head6
    simp only [List.length_append, whole6_length, List.length_cons, List.length_nil, List.length_take]
    omega
  have hfin : [96 + h.1 % 256 / 16, h.1 % 16 * 16 + h.2.1 % 1048576 / 65536, h.2.1 / 256 % 256, h.2.1 % 256, ((min body.length 2008 - 0 : Nat) : Int) / 256 % 256, ((min body.length 2008 - 0 : Nat) : Int) % 256, h.2.2.2.1 % 256, h.2.2.2.2.1 % 256] ++ whole6 (src6 h) ++ whole6 (dst6 h) ++ List.drop 0 (List.take (min body.length 2008) body) = build6 h body := by
    have e3 : ((min body.length 2008 : Nat) : Int) / 256 % 256 = ((min body.length 2008 : Nat) : Int) / 256 := by omega
    have e4 : body.take (min body.length 2008) = body.take 2008 := by
      rcases Nat.le_total body.length 2008 with k | k
      · rw [Nat.min_eq_left k, List.take_of_length_le (Nat.le_refl _), List.take_of_length_le k]
      · rw [Nat.min_eq_right k]
    unfold build6 head6
    rw [Nat.sub_zero, List.drop_zero, e3, e4]
  simp only [whole6_length, List.drop_zero, l1, hbl] at hfin ⊢
  refine ⟨by omega, by omega, by omega, by omega, by omega, by omega, by omega, by omega, by omega, by omega, by omega, by omega, src6 h, rfl, rfl, rfl, hw.1, fun _ _ => ⟨by omega, dst6 h, rfl, rfl, rfl, hw.2, fun _ _ => ⟨by omega, by omega, (), trivial, by omega, hfin, trivial⟩⟩⟩
theorem GK0 : Goods Try.prog K0 := goods_cons (GR3 _ _ rfl) (goods_cons (GR3 _ _ rfl) GL21)
theorem GK1 : Goods Try.prog K1 := goods_cons (good_of_owes hM hP GK0 Try.func81 rfl (o_rparse6 ▸ p_rparse6)) (goods_cons (good_of_owes hM hP GK0 Try.func126 rfl (o_rsixteen ▸ p_rsixteen)) GK0)
theorem GK2 : Goods Try.prog K2 := goods_cons (good_of_owes hM hP GK1 Try.func83 rfl (o_rhop6 ▸ p_rhop6)) (goods_cons (good_of_owes hM hP GK1 Try.func87 rfl (o_rbuild6 ▸ p_rbuild6)) GK1)
theorem p_is6 : T_is6 := by
  rintro ⟨b, h, body⟩ ⟨hb, hw, hy⟩
  dsimp only at hb hw hy ⊢
  have hb : okB b := hb
  refine ⟨(), trivial, fun _ _ => ifB_d (fun _ => ⟨(), trivial, rfl, trivial⟩) fun hl => ifB_d (fun _ => ⟨(), trivial, rfl, trivial⟩) fun hl2 => ?_⟩
  have hm : b.length ≤ most := by show _ ≤ 1000000; omega
  refine ⟨b, rfl, rfl, ⟨hb, hm⟩, fun _ _ => ⟨b, rfl, rfl, ⟨hb, hm⟩, fun _ _ => ⟨b, rfl, rfl, ⟨hb, hm⟩, fun _ _ => ⟨b, rfl, rfl, ⟨hb, hm⟩, fun _ _ => ?_⟩⟩⟩⟩
  refine ifB_tb (by simp) (ifB_eq rfl (ifB_eq rfl (ifB_eq rfl ⟨(h, body), rfl, rfl, rfl, rfl, rfl, rfl, rfl, rfl, rfl, rfl, rfl, rfl, rfl, ⟨hw, hy⟩, fun _ _ => ⟨(h, body), rfl, rfl, rfl, rfl, rfl, rfl, rfl, rfl, rfl, rfl, rfl, rfl, rfl, ⟨hw, hy⟩, fun _ _ => ⟨(), trivial, by simp, trivial⟩⟩⟩)))
theorem g_is6 : Good Try.prog 22 Is6L := good_of_owes hM hP GK2 Try.func22 rfl (o_is6 ▸ p_is6)
theorem law_is6 (b : List Int) (h : H6) (m : List Int) (k : wfT u8K b) (w : ∀ l ∈ leafs h6K h, l.wf) (k2 : wfT u8K m) : Is6L.pre (b, h, m) := ⟨wf_b21 k, wf_h21 w, wf_b21 k2⟩
-- LAW Ipv6Is kedgelaw21.Ipv6Is Sp.g_is6 Sp.law_is6
end Sp
