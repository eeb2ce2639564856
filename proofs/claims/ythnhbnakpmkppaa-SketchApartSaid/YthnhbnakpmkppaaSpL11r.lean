/- Laws kept: layer 11, counts. -/
import Derived.Test.YthnhbnakpmkppaaSpL11p
set_option linter.all false
set_option maxRecDepth 10000
namespace Sp
open Go Go.Proofs Sx Go.Proofs.Ythnhbnakpmkppaa.Ma
theorem get_mem {α : Type} {l : List α} {i : Int} {d : α} (h0 : 0 ≤ i) (h1 : i < l.length) : l.getD i.toNat d ∈ l := by
  have : i.toNat < l.length := by omega
  rw [List.getD_eq_getElem?_getD, List.getElem?_eq_getElem this]
  exact List.getElem_mem this
theorem add_pair {s : Sk} {w : Int} (h : s.2 = w) (q : Pf) : ((addK s q).1, w) = addK s q := by rw [← h, ← addK_w s q]
structure LeastI (r w : Int) (l : List Pf) (p : Pf) (x : Int × Int × Int × LI) : Prop where
  i0 : 0 ≤ x.1
  i1 : x.1 ≤ l.length
  ok : okK (x.2.2.2, (newK r w).2)
  len : x.2.2.2.length = (newK r w).1.length
  n0 : 0 ≤ x.2.1
  n1 : x.2.1 ≤ x.1
  s0 : 0 ≤ x.2.2.1
  s1 : x.2.2.1 ≤ x.1
  lo : x.2.1 ≤ countK (x.2.2.2, (newK r w).2) p
  hi : countK (x.2.2.2, (newK r w).2) p ≤ x.2.2.1
theorem p_least11 : T_least11 := by
  rintro ⟨r, w, l, p⟩ ⟨hp, hl⟩
  dsimp only at hp hl ⊢
  refine ⟨(), trivial, fun _ _ => ifB_d (fun _ => ⟨(), trivial, rfl, trivial⟩) fun h80 => ⟨(r, w), rfl, rfl, trivial, fun _ _ => ⟨LeastI r w l p, fun x => (l.length - x.1).toNat, ⟨(0, 0, 0, (newK r w).1), ⟨Int.le_refl _, by dsimp only; omega, okK_new r w, rfl, Int.le_refl _, Int.le_refl _, Int.le_refl _, Int.le_refl _, ?_, ?_⟩, rfl, rfl, rfl, rfl, trivial⟩, ?_⟩⟩⟩
  · have := count_new r w p
    exact Int.le_of_eq this.symm
  · have := count_new r w p
    exact Int.le_of_eq this
  rintro ⟨i, n, s, c⟩ hI
  obtain ⟨i0, i1, ok, len, n0, n1, s0, s1, lo, hi⟩ := hI
  dsimp only at i0 i1 ok len n0 n1 s0 s1 lo hi ⊢
  have hc := count_ok ok p
  refine ifB_d (fun hk => ?_) fun _ => ⟨((c, (newK r w).2), p), rfl, rfl, rfl, rfl, len.symm, rfl, rfl, ⟨ok, hp⟩, fun _ _ => ifB_eq lo (ifB_eq hi ⟨(), trivial, decide_eq_true hc.2, trivial⟩)⟩
  have hm := hl _ (get_mem (d := ((0, 0, false, 0) : Pf)) i0 hk)
  generalize hq : l.getD i.toNat ((0, 0, false, 0) : Pf) = q at hm
  have ok' := okK_add ok q
  have e := add_pair (s := (c, (newK r w).2)) rfl q
  have len' : (addK (c, (newK r w).2) q).1.length = (newK r w).1.length := (addK_len ok q).trans len
  refine ⟨⟨i0, hk⟩, ((c, (newK r w).2), q), rfl, rfl, rfl, rfl, len.symm, rfl, rfl, ⟨ok, hm⟩, fun _ _ => ⟨⟨i0, hk⟩, q, rfl, rfl, rfl, rfl, hm, fun _ _ => ifB_ne rfl ?_⟩⟩
  dsimp only
  cases hs : saneP q with
  | true =>
    have hca := count_add ok hs p
    refine ifB_tb rfl ⟨by omega, ifB_tb rfl ⟨⟨i0, hk⟩, ifB_b (fun he => ?_) fun he => ?_⟩⟩
    · simp only [Bool.and_eq_true, decide_eq_true_eq] at he
      obtain ⟨e1, e2, e3, e4⟩ := he
      have hqp : q = p := Prod.ext e1 (Prod.ext e2 (Prod.ext e3 e4))
      have hcs := count_add_same ok hs
      refine ⟨by omega, by omega, (i + 1, n + 1, s + 1, (addK (c, (newK r w).2) q).1), ⟨by dsimp only; omega, by dsimp only; omega, by dsimp only; rw [e]; exact ok', len', by dsimp only; omega, by dsimp only; omega, by dsimp only; omega, by dsimp only; omega, ?_, ?_⟩, by simp only; omega, rfl, rfl, rfl, rfl, trivial⟩
      · dsimp only
        rw [e, ← hqp, hcs, hqp]
        omega
      · dsimp only
        rw [e]
        omega
    · refine ⟨by omega, (i + 1, n, s + 1, (addK (c, (newK r w).2) q).1), ⟨by dsimp only; omega, by dsimp only; omega, by dsimp only; rw [e]; exact ok', len', by dsimp only; omega, by dsimp only; omega, by dsimp only; omega, by dsimp only; omega, ?_, ?_⟩, by simp only; omega, rfl, rfl, rfl, rfl, trivial⟩
      · dsimp only
        rw [e]
        omega
      · dsimp only
        rw [e]
        omega
  | false =>
    have en := addK_not (s := (c, (newK r w).2)) hs
    refine ifB_fb rfl (ifB_fb rfl ⟨by omega, (i + 1, n, s, (addK (c, (newK r w).2) q).1), ⟨by dsimp only; omega, by dsimp only; omega, by dsimp only; rw [e]; exact ok', len', by dsimp only; omega, by dsimp only; omega, by dsimp only; omega, by dsimp only; omega, ?_, ?_⟩, by simp only; omega, rfl, rfl, rfl, rfl, trivial⟩)
    · dsimp only
      rw [en]
      exact lo
    · dsimp only
      rw [en]
      exact hi
structure FullI (r w : Int) (p : Pf) (m : Int) (g : Int → Int) (x : Int × LI) : Prop where
  i0 : 0 ≤ x.1
  i1 : x.1 ≤ m
  ok : okK (x.2, (newK r w).2)
  len : x.2.length = (newK r w).1.length
  cnt : countK (x.2, (newK r w).2) p = g x.1
theorem p_full11 : T_full11 := by
  rintro ⟨r, w, p⟩ hp
  dsimp only at hp ⊢
  refine ⟨(), trivial, fun _ _ => ⟨(r, w), rfl, rfl, trivial, fun _ _ => ⟨p, rfl, rfl, rfl, rfl, hp, fun _ _ => ifB_b (fun hb => ?_) fun hb => ?_⟩⟩⟩
  · exact ⟨(newK r w, p), rfl, rfl, rfl, rfl, rfl, rfl, rfl, ⟨okK_new r w, hp⟩, fun _ _ => ⟨(), trivial, decide_eq_true (count_new r w p), trivial⟩⟩
  have hs : saneP p = true := by simpa using hb
  refine ⟨FullI r w p 300 (fun k => min 255 k), fun x => (300 - x.1).toNat, ⟨(0, (newK r w).1), ⟨by dsimp only; omega, by dsimp only; omega, okK_new r w, rfl, (count_new r w p).trans (by dsimp only; omega)⟩, rfl, rfl, trivial⟩, ?_⟩
  rintro ⟨i, c⟩ ⟨i0, i1, ok, len, cnt⟩
  dsimp only at i0 i1 ok len cnt ⊢
  refine ifB_d (fun hk => ⟨((c, (newK r w).2), p), rfl, rfl, rfl, rfl, len.symm, rfl, rfl, ⟨ok, hp⟩, fun _ _ => ⟨by omega, (i + 1, (addK (c, (newK r w).2) p).1), ⟨by dsimp only; omega, by dsimp only; omega, ?_, (addK_len ok p).trans len, ?_⟩, by simp only; omega, rfl, rfl, trivial⟩⟩)
    fun hk => ⟨((c, (newK r w).2), p), rfl, rfl, rfl, rfl, len.symm, rfl, rfl, ⟨ok, hp⟩, fun _ _ => ⟨FullI r w p 7 (fun k => 255 / 2 ^ k.toNat), fun x => (7 - x.1).toNat, ⟨(0, c), ⟨by dsimp only; omega, by dsimp only; omega, ok, len, ?_⟩, rfl, rfl, trivial⟩, ?_⟩⟩
  · dsimp only
    rw [add_pair (s := (c, (newK r w).2)) rfl p]
    exact okK_add ok p
  · dsimp only
    rw [add_pair (s := (c, (newK r w).2)) rfl p, count_add_same ok hs, cnt]
    omega
  · dsimp only
    rw [cnt]
    have : (255 : Int) / 2 ^ (0 : Int).toNat = 255 := by decide
    omega
  have c255 : countK (c, (newK r w).2) p = 255 := by rw [cnt]; omega
  rintro ⟨j, d⟩ ⟨j0, j1, okd, lend, cntd⟩
  dsimp only at j0 j1 okd lend cntd ⊢
  have hd : countK ((decK (d, (newK r w).2)).1, (newK r w).2) p = countK (d, (newK r w).2) p / 2 := count_dec okd p
  have hd2 : countK (decK (d, (newK r w).2)) p = countK (d, (newK r w).2) p / 2 := count_dec okd p
  have lend' : (decK (d, (newK r w).2)).1.length = (newK r w).1.length := (List.length_map ..).trans lend
  refine ifB_d (fun hk => ⟨(d, (newK r w).2), lend.symm, rfl, rfl, okd, fun _ _ => ⟨by omega, (j + 1, (decK (d, (newK r w).2)).1), ⟨by dsimp only; omega, by dsimp only; omega, okK_dec okd, lend', ?_⟩, by simp only; omega, rfl, rfl, trivial⟩⟩)
    fun hk => ⟨((d, (newK r w).2), p), rfl, rfl, rfl, rfl, lend.symm, rfl, rfl, ⟨okd, hp⟩, fun _ _ => ⟨(d, (newK r w).2), lend.symm, rfl, rfl, okd, fun _ _ => ifB_eq c255 (ifB_eq ?_ ⟨(decK (d, (newK r w).2), p), rfl, rfl, rfl, rfl, lend'.symm, rfl, rfl, ⟨okK_dec okd, hp⟩, fun _ _ => ⟨(), trivial, decide_eq_true ?_, trivial⟩⟩)⟩⟩
  · dsimp only
    rw [hd, cntd]
    rcases (by omega : j = 0 ∨ j = 1 ∨ j = 2 ∨ j = 3 ∨ j = 4 ∨ j = 5 ∨ j = 6) with rfl | rfl | rfl | rfl | rfl | rfl | rfl <;> decide
  · obtain rfl : j = 7 := by omega
    dsimp only
    rw [cntd]
    decide
  · obtain rfl : j = 7 := by omega
    dsimp only
    rw [hd2, cntd]
    decide
structure ApartI (r w : Int) (l : List (Bool × Pf)) (x : Int × LI) : Prop where
  i0 : 0 ≤ x.1
  i1 : x.1 ≤ l.length
  ok : okK (x.2, (newK r w).2)
  len : x.2.length = (newK r w).1.length
theorem hash_256 (p : Pf) : hashP 1 p = hashP 257 p := by
  unfold hashP
  rw [show max (257 : Int) 0 % 256 = max 1 0 % 256 by decide]
theorem p_apart11 : T_apart11 := by
  rintro ⟨r, w, l, p⟩ ⟨hp, hl⟩
  dsimp only at hp hl ⊢
  refine ⟨(), trivial, fun _ _ => ifB_d (fun _ => ⟨(), trivial, rfl, trivial⟩) fun h80 => ⟨(r, w), rfl, rfl, trivial, fun _ _ => ⟨ApartI r w l, fun x => (l.length - x.1).toNat, ⟨(0, (newK r w).1), ⟨Int.le_refl _, by dsimp only; omega, okK_new r w, rfl⟩, rfl, rfl, trivial⟩, ?_⟩⟩⟩
  rintro ⟨i, c⟩ ⟨i0, i1, ok, len⟩
  dsimp only at i0 i1 ok len ⊢
  have hc := count_ok ok p
  refine ifB_d (fun hk => ?_) fun _ => ⟨p, rfl, rfl, rfl, rfl, hp, fun _ _ => ifB_b (fun hs => ⟨(1, p), rfl, rfl, rfl, rfl, rfl, hp, fun _ _ => ⟨(257, p), rfl, rfl, rfl, rfl, rfl, hp, fun _ _ => ⟨(), trivial, decide_eq_true (hash_256 p), trivial⟩⟩⟩)
    fun hs => ⟨((c, (newK r w).2), p), rfl, rfl, rfl, rfl, len.symm, rfl, rfl, ⟨ok, hp⟩, fun _ _ => ifB_eq (countK_not hs) ⟨(1, p), rfl, rfl, rfl, rfl, rfl, hp, fun _ _ => ⟨(257, p), rfl, rfl, rfl, rfl, rfl, hp, fun _ _ => ⟨(), trivial, decide_eq_true (hash_256 p), trivial⟩⟩⟩⟩⟩
  have hm := hl _ (get_mem (d := ((false, 0, 0, false, 0) : Bool × Pf)) i0 hk)
  generalize hq : l.getD i.toNat ((false, 0, 0, false, 0) : Bool × Pf) = bq at hm
  obtain ⟨b, q⟩ := bq
  dsimp only at hm ⊢
  have hd : countK (decK (c, (newK r w).2)) p = countK (c, (newK r w).2) p / 2 := count_dec ok p
  have lend : (decK (c, (newK r w).2)).1.length = (newK r w).1.length := (List.length_map ..).trans len
  have ok' := okK_add ok q
  have e := add_pair (s := (c, (newK r w).2)) rfl q
  have len' : (addK (c, (newK r w).2) q).1.length = (newK r w).1.length := (addK_len ok q).trans len
  have step : (-9223372036854775808 ≤ i + 1 ∧ i + 1 ≤ 9223372036854775807) ∧ ∃ y : Int × LI, ApartI r w l y ∧ (l.length - y.1).toNat < (l.length - i).toNat ∧ i + 1 = y.1 ∧ (addK (c, (newK r w).2) q).1 = y.2 ∧ True :=
    ⟨by omega, (i + 1, (addK (c, (newK r w).2) q).1), ⟨by dsimp only; omega, by dsimp only; omega, by dsimp only; rw [e]; exact ok', len'⟩, by simp only; omega, rfl, rfl, trivial⟩
  refine ⟨((c, (newK r w).2), p), rfl, rfl, rfl, rfl, len.symm, rfl, rfl, ⟨ok, hp⟩, fun _ _ => ⟨⟨i0, hk⟩, ifB_b (fun hb => ?_) fun hb => ?_⟩⟩
  · exact ⟨(c, (newK r w).2), len.symm, rfl, rfl, ok, fun _ _ => ⟨(decK (c, (newK r w).2), p), rfl, rfl, rfl, rfl, lend.symm, rfl, rfl, ⟨okK_dec ok, hp⟩, fun _ _ => ⟨⟨hc.1, by decide⟩, ifB_ne hd ⟨by omega, (i + 1, (decK (c, (newK r w).2)).1), ⟨by dsimp only; omega, by dsimp only; omega, okK_dec ok, lend⟩, by simp only; omega, rfl, rfl, trivial⟩⟩⟩⟩
  refine ⟨⟨i0, hk⟩, ((c, (newK r w).2), q), rfl, rfl, rfl, rfl, len.symm, rfl, rfl, ⟨ok, hm⟩, fun _ _ => ⟨(addK (c, (newK r w).2) q, p), rfl, rfl, rfl, rfl, len'.symm, (addK_w (c, (newK r w).2) q).symm, rfl, ⟨ok', hp⟩, fun _ _ => ?_⟩⟩
  dsimp only
  cases hs : saneP q with
  | true =>
    have hca := count_add ok hs p
    refine ifB_d (fun h => by omega) fun _ => ⟨by omega, ifB_d (fun h => by omega) fun _ => ifB_tb rfl ⟨⟨i0, hk⟩, ifB_b (fun he => ?_) fun _ => ifB_fb rfl step⟩⟩
    simp only [Bool.and_eq_true, decide_eq_true_eq] at he
    obtain ⟨e1, e2, e3, e4⟩ := he
    have hqp : q = p := Prod.ext e1 (Prod.ext e2 (Prod.ext e3 e4))
    have hcs := count_add_same ok hs
    refine ⟨by omega, ifB_ne ?_ (ifB_fb rfl step)⟩
    rw [← hqp]
    exact hcs
  | false =>
    have en := addK_not (s := (c, (newK r w).2)) hs
    refine ifB_d (fun h => by rw [en] at h; omega) fun _ => ⟨by omega, ifB_d (fun h => by rw [en] at h; omega) fun _ => ifB_fb rfl (ifB_tb rfl (ifB_ne (by rw [en]) step))⟩
theorem g_least11 : Good Try.prog 5 LeastL := good_of_owes hM hP GS3 Try.func5 rfl (o_least11 ▸ p_least11)
theorem g_full11 : Good Try.prog 6 FullL := good_of_owes hM hP GS3 Try.func6 rfl (o_full11 ▸ p_full11)
theorem g_apart11 : Good Try.prog 7 ApartL := good_of_owes hM hP GS3 Try.func7 rfl (o_apart11 ▸ p_apart11)
theorem law_least11 {α β : Prop} (r w : Int) (l : List Pf) (p : Pf) (_ : α) (_ : β) (h : wfT pf4K l) (k : ∀ l ∈ leafs pf4K p, l.wf) : LeastL.pre (r, w, l, p) := ⟨wf_pf k, fun q hq => wf_pf (h q hq)⟩
theorem law_full11 {α β : Prop} (r w : Int) (p : Pf) (_ : α) (_ : β) (k : ∀ l ∈ leafs pf4K p, l.wf) : FullL.pre (r, w, p) := wf_pf k
theorem law_apart11 {α β : Prop} (r w : Int) (l : List (Bool × Pf)) (p : Pf) (_ : α) (_ : β) (h : wfT actK l) (k : ∀ l ∈ leafs pf4K p, l.wf) : ApartL.pre (r, w, l, p) := ⟨wf_pf k, fun q hq => wf_pf fun x hx => h q hq x (List.mem_cons_of_mem _ hx)⟩
-- LAW SketchLeast kedgelaw11.SketchLeast Sp.g_least11 Sp.law_least11
-- LAW SketchFull kedgelaw11.SketchFull Sp.g_full11 Sp.law_full11
-- LAW SketchApart kedgelaw11.SketchApart Sp.g_apart11 Sp.law_apart11
end Sp
