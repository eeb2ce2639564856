/- Contracts kept: which one has to go. -/
import Derived.Test.YtcilcmbailoeaaaSpVt
import Derived.Test.YtcilcmbailoeaaaSpVic3
set_option linter.all false
set_option maxRecDepth 10000
namespace Sp
open Go Go.Proofs Sx Go.Proofs.Ytcilcmbailoeaaa.Ma
theorem p_cmpi : T_cmpi := by
  rintro ⟨a, b⟩ _
  dsimp only
  refine ifB_ne rfl (ifB_ne rfl (ifB_d (fun h => ⟨(), trivial, by rw [if_pos h], trivial⟩) fun h => ifB_d (fun h2 => ⟨(), trivial, by rw [if_neg h, if_pos h2], trivial⟩) fun h2 => ⟨(), trivial, by rw [if_neg h, if_neg h2], trivial⟩))
theorem p_cmp0 : T_cmp0 := by
  rintro ⟨a, b⟩ _
  exact ⟨(), trivial, by simp [cmpK, key0], trivial⟩
theorem p_cmp1 : T_cmp1 := by
  rintro ⟨a, b⟩ _
  exact ⟨(a.2, b.2), rfl, rfl, trivial, fun _ _ => ⟨(), trivial, rfl, trivial⟩⟩
theorem p_vswap : T_vswap := by
  rintro ⟨xs, a, b, n⟩ ⟨h1, h2, h3⟩
  dsimp only at h1 h2 h3 ⊢
  have h3 : xs.length ≤ 1000000 := h3
  refine ⟨fun x => 0 ≤ x.1 ∧ x.1 ≤ n ∧ x.2 = swapL xs a b x.1.toNat, fun x => (n - x.1).toNat, ⟨(0, xs), ⟨by simp, by simp, ?_⟩, rfl, rfl, trivial⟩, ?_⟩
  · show xs = swapL xs a b 0
    apply List.ext_getElem?
    intro j
    rw [swapL_get xs (by omega) (by omega)]
    repeat' split
    all_goals first | rfl | omega
  rintro ⟨i, ys⟩ ⟨i0, i1, i2⟩
  dsimp only at i0 i1 i2 ⊢
  refine ifB_d (fun h => ⟨by omega, by omega, by omega, by omega, by omega, by omega, by omega, by omega, by omega, (i + 1, swapL xs a b (i.toNat + 1)), ⟨by dsimp only; omega, by dsimp only; omega, by dsimp only; congr 1; omega⟩, by dsimp only; omega, rfl, ?_, trivial⟩) fun h => ⟨_, rfl, by rw [i2]; congr 1; omega, trivial⟩
  subst i2
  have e1 : ((a : Int) + i).toNat = a + i.toNat := by omega
  have e2 : ((b : Int) + i).toNat = b + i.toNat := by omega
  rw [e1, e2]
  exact swapL_step xs h1 h2 (by omega)
theorem p_vclone : T_vclone := by
  intro x hx
  have hx : x.length ≤ 1000000 := hx
  refine ⟨fun h => ⟨(), trivial, h.symm, (List.length_eq_zero_iff.1 h).symm, trivial⟩, ⟨by omega, by omega⟩, (), trivial, by omega, rfl, trivial⟩
theorem p_vrev : T_vrev := by
  intro xs hl
  have hl : xs.length ≤ 1000000 := hl
  refine ⟨by omega, fun x => 0 ≤ x.1 ∧ x.1 ≤ xs.length ∧ x.2.1 = xs.length - 1 - x.1 ∧ x.2.2.length = xs.length ∧ ∀ j : Nat, j < xs.length → x.2.2[j]? = if (j : Int) < x.1 ∨ x.2.1 < j then xs[xs.length - 1 - j]? else xs[j]?, fun x => (x.2.1 - x.1 + 1).toNat, ⟨(0, (xs.length : Int) - 1, xs), ⟨by simp, by simp, by simp, rfl, fun j hj => by dsimp only; rw [if_neg (by omega)]⟩, rfl, rfl, rfl, trivial⟩, ?_⟩
  rintro ⟨i, k, ys⟩ ⟨i0, i1, i2, i3, i4⟩
  dsimp only at i0 i1 i2 i3 i4 ⊢
  refine ifB_d (fun h => ⟨by omega, by omega, by omega, by omega, by omega, by omega, (i + 1, k - 1, _), ⟨by dsimp only; omega, by dsimp only; omega, by dsimp only; omega, by dsimp only; rw [List.length_set, List.length_set]; exact i3, ?_⟩, by dsimp only; omega, rfl, rfl, rfl, trivial⟩) fun h => ⟨_, rfl, ?_, trivial⟩
  · intro j hj
    dsimp only
    have e1 := getD_some (l := ys) (i := k.toNat) (0, 0) (by omega)
    have e2 := getD_some (l := ys) (i := i.toNat) (0, 0) (by omega)
    rw [List.getElem?_set, List.getElem?_set]
    by_cases c1 : k.toNat = j
    · rw [if_pos c1, if_pos (by rw [List.length_set]; omega), ← e2, i4 _ (by omega), if_neg (by omega), if_pos (by omega)]
      congr 1
      omega
    rw [if_neg c1]
    by_cases c2 : i.toNat = j
    · rw [if_pos c2, if_pos (by omega), ← e1, i4 _ (by omega), if_neg (by omega), if_pos (by omega)]
      congr 1
      omega
    rw [if_neg c2, i4 j hj]
    by_cases c3 : (j : Int) < i ∨ k < j
    · rw [if_pos c3, if_pos (by omega)]
    · rw [if_neg c3, if_neg (by omega)]
  · apply List.ext_getElem?
    intro j
    by_cases hj : j < xs.length
    · rw [i4 j hj, List.getElem?_reverse hj]
      split
      · rfl
      · congr 1
        omega
    · rw [List.getElem?_eq_none (by omega), List.getElem?_eq_none (by rw [List.length_reverse]; omega)]
theorem GV0 : Goods Try.prog V0 := goods_cons (good_of_owes hM hP GW0 Try.func141 rfl (o_cmpi ▸ p_cmpi)) (goods_cons (good_of_owes hM hP GW0 Try.func151 rfl (o_vswap ▸ p_vswap)) (goods_cons (good_of_owes hM hP GW0 Try.func143 rfl (o_vrev ▸ p_vrev)) (goods_cons (good_of_owes hM hP GW0 Try.func142 rfl (o_vclone ▸ p_vclone)) (goods_nil _))))
theorem p_vrot : T_vrot := by
  rintro ⟨xs, a, m, b⟩ ⟨h1, h2, h3, h4⟩
  dsimp only at h1 h2 h3 h4 ⊢
  have h4 : xs.length ≤ 1000000 := h4
  refine ⟨by omega, by omega, fun x => 1 ≤ x.1 ∧ x.1 ≤ m - a ∧ 1 ≤ x.2.1 ∧ x.2.1 ≤ b - m ∧ x.2.2.length = xs.length ∧ rotL x.2.2 (m - x.1.toNat) m (m + x.2.1.toNat) = rotL xs a m b, fun x => (x.1 + x.2.1).toNat, ⟨((m : Int) - a, (b : Int) - m, xs), ⟨by dsimp only; omega, by dsimp only; omega, by dsimp only; omega, by dsimp only; omega, rfl, ?_⟩, rfl, rfl, rfl, trivial⟩, ?_⟩
  · show rotL xs (m - ((m : Int) - a).toNat) m (m + ((b : Int) - m).toNat) = _
    congr 1 <;> omega
  rintro ⟨i, j, ys⟩ ⟨i0, i1, i2, i3, i4, i5⟩
  dsimp only at i0 i1 i2 i3 i4 i5 ⊢
  refine ifB_nd (fun hne => ifB_d (fun hlt => ?_) fun hlt => ?_) fun he => ?_
  · refine ⟨by omega, (ys, m - i.toNat, m, j.toNat), i4.symm, by dsimp only; omega, rfl, by dsimp only; omega, rfl, ⟨by dsimp only; omega, by dsimp only; omega, by show ys.length ≤ 1000000; omega⟩, fun zs hz => ⟨by omega, (i - j, j, zs), ⟨by dsimp only; omega, by dsimp only; omega, by dsimp only; omega, by dsimp only; omega, ?_, ?_⟩, by dsimp only; omega, rfl, rfl, rfl, trivial⟩⟩
    · dsimp only at hz ⊢
      rw [hz, swapL_length _ (by omega) (by omega), i4]
    · dsimp only at hz ⊢
      rw [hz, show m - (i - j).toNat = m - i.toNat + j.toNat by omega, rot_left ys (by omega) (by omega) (by omega), i5]
  · refine ⟨by omega, by omega, by omega, (ys, m - i.toNat, m + j.toNat - i.toNat, i.toNat), i4.symm, by dsimp only; omega, by dsimp only; omega, by dsimp only; omega, rfl, ⟨by dsimp only; omega, by dsimp only; omega, by show ys.length ≤ 1000000; omega⟩, fun zs hz => ⟨by omega, (i, j - i, zs), ⟨by dsimp only; omega, by dsimp only; omega, by dsimp only; omega, by dsimp only; omega, ?_, ?_⟩, by dsimp only; omega, rfl, rfl, rfl, trivial⟩⟩
    · dsimp only at hz ⊢
      rw [hz, swapL_length _ (by omega) (by omega), i4]
    · dsimp only at hz ⊢
      rw [hz, show (j - i).toNat = j.toNat - i.toNat by omega, rot_right ys (by omega) (by omega) (by omega), i5]
  · refine ⟨by omega, (ys, m - i.toNat, m, i.toNat), i4.symm, by dsimp only; omega, rfl, by dsimp only; omega, rfl, ⟨by dsimp only; omega, by dsimp only; omega, by show ys.length ≤ 1000000; omega⟩, fun zs hz => ⟨_, rfl, ?_, trivial⟩⟩
    dsimp only at hz ⊢
    rw [hz, rot_one ys (by omega) (by omega), ← i5]
    congr 1
    omega
theorem cmpK_neg (key : En → Int) (a b : En) : cmpK key a b < 0 ↔ key a < key b := by
  unfold cmpK
  split
  · simp_all
  · split <;> simp_all
theorem p_vins (key : En → Int) : T_vins key := by
  rintro ⟨xs, a, b⟩ ⟨h1, h2, h3⟩
  dsimp only at h1 h2 h3 ⊢
  have h3 : xs.length ≤ 1000000 := h3
  refine ⟨by omega, fun x => (a : Int) + 1 ≤ x.1 ∧ (x.1 ≤ b ∨ x.1 = a + 1) ∧ SSL key a (min x.1.toNat b) xs x.2, fun x => (b - x.1 + 1).toNat, ⟨((a : Int) + 1, xs), ⟨by dsimp only; omega, .inr rfl, ?_⟩, rfl, rfl, trivial⟩, ?_⟩
  · refine ⟨mids xs a (min ((a : Int) + 1).toNat b), split3 xs (by omega), mids_length _ (by omega), ?_, EqF.refl _ _⟩
    have hl : (mids xs a (min ((a : Int) + 1).toNat b)).length ≤ 1 := by rw [mids_length _ (by omega)]; omega
    match mids xs a (min ((a : Int) + 1).toNat b), hl with
    | [], _ => exact List.Pairwise.nil
    | [_], _ => exact List.pairwise_singleton _ _
  rintro ⟨i, ys⟩ ⟨i0, i1, i2⟩
  dsimp only at i0 i1 i2 ⊢
  refine ifB_d (fun hi => ?_) fun hi => ⟨_, SSL.rel h1 h2 (by rw [show min i.toNat b = b by omega] at i2; exact i2), rfl, trivial⟩
  rw [show min i.toNat b = i.toNat by omega] at i2
  obtain ⟨S, rfl, s1, s2, s3⟩ := i2
  have hT : xs.drop i.toNat = xs.getD i.toNat (0, 0) :: xs.drop (i.toNat + 1) := by
    rw [List.drop_eq_getElem_cons (by omega)]
    congr 1
    rw [List.getD_eq_getElem?_getD, List.getElem?_eq_getElem (by omega)]
    rfl
  have hm := mids_snoc xs (a := a) (i := i.toNat) (by omega) (by omega)
  have fin : ∀ P e Q, P.length + Q.length = i.toNat - a → SortedK key (P ++ Q) → (∀ y ∈ Q, key e < key y) → EqF key (P ++ e :: Q) (mids xs a (i.toNat + 1)) → (P = [] ∨ ∃ P' p, P = P' ++ [p] ∧ ¬ key e < key p) →
      (-9223372036854775808 ≤ i + 1 ∧ i + 1 ≤ 9223372036854775807) ∧ ∃ y : Int × List En, ((a : Int) + 1 ≤ y.1 ∧ (y.1 ≤ b ∨ y.1 = a + 1) ∧ SSL key a (min y.1.toNat b) xs y.2) ∧ (b - y.1 + 1).toNat < ((b : Int) - i + 1).toNat ∧ i + 1 = y.1 ∧ xs.take a ++ (P ++ e :: Q) ++ xs.drop (i.toNat + 1) = y.2 ∧ True := by
    intro P e Q p1 p2 p3 p4 p5
    refine ⟨by omega, (i + 1, _), ⟨by dsimp only; omega, .inl (by dsimp only; omega), ?_⟩, by dsimp only; omega, rfl, rfl, trivial⟩
    dsimp only
    rw [show min (i + 1).toNat b = i.toNat + 1 by omega]
    refine ⟨P ++ e :: Q, rfl, by rw [List.length_append, List.length_cons]; omega, ?_, p4⟩
    have q := List.pairwise_append.1 p2
    refine List.pairwise_append.2 ⟨q.1, List.pairwise_cons.2 ⟨fun y hy => Int.le_of_lt (p3 y hy), q.2.1⟩, fun x hx y hy => ?_⟩
    rcases List.mem_cons.1 hy with rfl | hy
    · rcases p5 with rfl | ⟨P', p, rfl, hp⟩
      · simp at hx
      · rcases List.mem_append.1 hx with hx | hx
        · have := (List.pairwise_append.1 q.1).2.2 x hx p (by simp)
          omega
        · have : x = p := by simpa using hx
          rw [this]
          omega
    · exact q.2.2 x hx y hy
  refine ⟨fun x => ∃ P e Q, x.2 = xs.take a ++ (P ++ e :: Q) ++ xs.drop (i.toNat + 1) ∧ x.1 = a + P.length ∧ P.length + Q.length = i.toNat - a ∧ SortedK key (P ++ Q) ∧ (∀ y ∈ Q, key e < key y) ∧ EqF key (P ++ e :: Q) (mids xs a (i.toNat + 1)), fun x => x.1.toNat, ⟨(i, _), ⟨S, xs.getD i.toNat (0, 0), [], ?_, by dsimp only; omega, by simp; omega, by simpa using s2, by simp, ?_⟩, rfl, rfl, trivial⟩, ?_⟩
  · dsimp only
    rw [hT]
    simp
  · rw [hm]
    exact s3.app (EqF.refl _ _)
  rintro ⟨j, zs⟩ ⟨P, e, Q, rfl, p0, p1, p2, p3, p4⟩
  dsimp only at p0 ⊢
  refine ifB_d (fun hj => ?_) fun hj => fin P e Q p1 p2 p3 p4 (.inl (List.eq_nil_of_length_eq_zero (by omega)))
  obtain ⟨P', p, rfl⟩ : ∃ P' p, P = P' ++ [p] := ⟨P.dropLast, P.getLast (by intro h; rw [h] at p0; simp at p0; omega), (List.dropLast_concat_getLast _).symm⟩
  rw [List.length_append, List.length_singleton] at p0 p1
  have hL : (xs.take a ++ P').length = a + P'.length := by rw [List.length_append, List.length_take]; omega
  have hz : xs.take a ++ (P' ++ [p] ++ e :: Q) ++ xs.drop (i.toNat + 1) = (xs.take a ++ P') ++ p :: e :: (Q ++ xs.drop (i.toNat + 1)) := by simp
  have hg := pair_get (xs.take a ++ P') p e (Q ++ xs.drop (i.toNat + 1)) (0, 0)
  have hw := pair_swap (xs.take a ++ P') p e (Q ++ xs.drop (i.toNat + 1))
  have j1 : j.toNat = (xs.take a ++ P').length + 1 := by omega
  have j2 : (j - 1).toNat = (xs.take a ++ P').length := by omega
  rw [hz, j1, j2, hg.1, hg.2]
  refine ⟨by omega, by omega, by omega, (e, p), rfl, rfl, rfl, rfl, trivial, fun _ _ => ifB_d (fun hc => ?_) fun hc => ?_⟩
  · rw [cmpK_neg] at hc
    refine ⟨by omega, by omega, by omega, by omega, by omega, by omega, by omega, (j - 1, _), ⟨P', e, p :: Q, ?_, by dsimp only; omega, by rw [List.length_cons]; omega, by simpa using p2, ?_, ?_⟩, by dsimp only; omega, rfl, rfl, trivial⟩
    · dsimp only
      rw [hw]
      simp
    · intro y hy
      rcases List.mem_cons.1 hy with rfl | hy
      · exact hc
      · exact p3 y hy
    · refine EqF.trans ?_ p4
      have : EqF key ([e] ++ [p]) ([p] ++ [e]) := EqF.swap (by intro x hx y hy; simp at hx hy; rw [hx, hy]; exact Int.ne_of_lt hc)
      have := (EqF.refl key P').app (this.app (EqF.refl key Q))
      simpa using this
  · rw [cmpK_neg] at hc
    have := fin (P' ++ [p]) e Q (by rw [List.length_append, List.length_singleton]; exact p1) p2 p3 p4 (.inr ⟨P', p, rfl, hc⟩)
    rw [hz] at this
    exact this
theorem GV1 : Goods Try.prog V1 := goods_cons (good_of_owes hM hP GV0 Try.func139 rfl (o_cmp0 ▸ p_cmp0)) (goods_cons (good_of_owes hM hP GV0 Try.func140 rfl (o_cmp1 ▸ p_cmp1)) (goods_cons (good_of_owes hM hP GV0 Try.func150 rfl (o_vrot ▸ p_vrot)) GV0))
theorem g_ins1 : Good Try.prog 148 (InsS 140 key1) := good_of_owes hM hP GV1 Try.func148 rfl (o_vins ▸ p_vins key1)
theorem g_ins0 : Good Try.prog 148 (InsS 139 key0) := good_of_owes hM hP GV1 Try.func148 rfl (o_vins0 ▸ p_vins key0)
end Sp
