import Derived.ProofKit
import Derived.Test.YthnhbnakpmkppaaGreatMgTableGoes7
import Derived.Test.YthnhbnakpmkppaaGreatMgTableGoes12
section
set_option linter.all false
set_option maxRecDepth 10000
namespace Sp
open Go Go.Proofs Sx Go.Proofs.YthnhbnakpmkppaaGreat.Ma
theorem end_step {u : Trie} (h : TRb u.ar u.fr u.t0 u.t1) {v6 : Bool} {q : List Bool} {i : Nat} {e e' : Option Int} {l r : Tr} (hs : (tsel u.t0 u.t1 v6).sub q = .node i e l r) {ar2 : List Nd} {up v : Int} (hlen : ar2.length = u.ar.length) (hgi : ar2.getD i nd0 = (l.ix, r.ix, up, e'.isSome, v))
    (hup : ∃ v0, u.ar.getD i nd0 = (l.ix, r.ix, up, e.isSome, v0)) (hv : ∀ x, e' = some x → v = x) (hk : ∀ k, k ≠ i → ar2.getD k nd0 = u.ar.getD k nd0) :
    ∃ t0 t1, TRb ar2 u.fr t0 t1 ∧ (∀ v' q', (tsel t0 t1 v').get q' = if v' = v6 ∧ q' = q then e' else (tsel u.t0 u.t1 v').get q') ∧ (tsel t0 t1 v6).sub q = .node i e' l r ∧
      (∀ d, (∀ v, LiveB (tsel u.t0 u.t1 v) (if v = v6 then d else [])) → (d = q ∨ d = [] ) → ∀ d', ((e'.isSome = true ∧ d' = []) ∨ d' = q) → ∀ v, LiveB (tsel t0 t1 v) (if v = v6 then d' else [])) := by
  have hne : (tsel u.t0 u.t1 v6).sub q ≠ .nil := by rw [hs]; exact fun k => by cases k
  obtain ⟨hR, hD, hN⟩ := h.sel v6
  obtain ⟨hi, v1, up1, har, _, _⟩ := h.node hs
  obtain ⟨rest, q1, _⟩ := sub_ids hne
  rw [hs] at q1
  have nodN : (Tr.node i e l r).ids.Nodup := (List.nodup_append.1 (q1.nodup_iff.1 (List.nodup_append.1 hN).1)).1
  have nd1 := List.nodup_cons.1 nodN
  have inR : ∀ k ∈ (Tr.node i e l r).ids, k < u.ar.length := fun k hk => ids_lt h (q1.mem_iff.2 (List.mem_append_left _ hk))
  have hrep := Tr.rep_at (p := q) hR
  rw [hs] at hrep
  obtain ⟨⟨_, v2, h2, _⟩, hl, hr⟩ := hrep
  obtain ⟨v0, hup⟩ := hup
  have upE : (tsel u.t0 u.t1 v6).upOf (-1) q = up := by
    rw [hup] at h2
    exact (congrArg (fun z : Nd => z.2.2.1) h2).symm
  have hDn : (Tr.node i e l r).Deep (wd v6 - q.length) := by
    have := (Tr.deep_sub hD hne).2
    rwa [hs] at this
  have same : ∀ s : Tr, s.Rep u.ar (i : Int) → (∀ k ∈ s.ids, k < u.ar.length ∧ k ≠ i) → s.Rep ar2 (i : Int) := fun s hsr hk' => Tr.rep_same hsr fun k hks => by
    obtain ⟨a, b⟩ := hk' k hks
    exact ⟨by rw [hlen]; exact a, hk k b⟩
  have B := h.change (ar' := ar2) (fr' := u.fr) (e' := e') (l' := l) (r' := r) hs (fun v k hk1 hno => ⟨by rw [hlen]; exact ids_lt h hk1, hk k fun z => hno (by rw [z]; simp [Tr.ids])⟩)
    ⟨⟨by rw [hlen]; exact hi, v, by rw [upE]; exact hgi, hv⟩, same l hl fun k hk1 => ⟨inR k (by simp [Tr.ids, hk1]), fun z => nd1.1 (by rw [← z]; exact List.mem_append_left _ hk1)⟩, same r hr fun k hk1 => ⟨inR k (by simp [Tr.ids, hk1]), fun z => nd1.1 (by rw [← z]; exact List.mem_append_right _ hk1)⟩⟩
    (by cases hw : wd v6 - q.length with
        | zero => rw [hw] at hDn; exact hDn
        | succ n => rw [hw] at hDn; exact hDn) (fun rest _ hnd => hnd) (fun x hx => by rw [hlen]; exact h.frl x hx) (by rw [hlen]; exact h.big)
  refine ⟨_, _, B, change_get hs (fun b q' => by cases b <;> rfl), ?_, fun d hl hd d' hd' => change_live hs hl (fun s i1 e1 l1 r1 hs0 hsd hsb => ?_) fun q' hp hq0 hqd hqe => ?_⟩
  · have := Tr.upd_at (f := fun _ => Tr.node i e' l r) (p := q) (t := tsel u.t0 u.t1 v6) [] hne
    rw [List.append_nil] at this
    rw [tsel_set, if_pos rfl]
    exact this
  · by_cases hs1 : s = []
    · subst hs1
      rw [List.append_nil] at hsd
      cases hsb
      rcases hd' with ⟨he, _⟩ | hd'
      · exact .inl he
      · exact absurd hd'.symm hsd
    · have hne2 : q ++ s ≠ d := by
        rcases hd with rfl | rfl
        · exact fun k => hs1 (List.append_right_eq_self.1 k)
        · exact hs0
      refine hl v6 (q ++ s) i1 e1 l1 r1 hs0 (by rw [if_pos rfl]; exact hne2) ?_
      rw [Tr.sub_app, hs]
      cases s with
      | nil => exact absurd rfl hs1
      | cons b s => cases b <;> exact hsb
  · rcases hd with rfl | rfl
    · exact hp (by rw [hqe]; exact List.prefix_refl _)
    · exact hq0 hqe
theorem set_two {a : List Nd} {i : Nat} (hi : i < a.length) {g : Nd} (h : a.getD i nd0 = g) (v : Int) : (a.set i (g.1, g.2.1, g.2.2.1, true, g.2.2.2.2)).set i (((a.set i (g.1, g.2.1, g.2.2.1, true, g.2.2.2.2)).getD i nd0).1, ((a.set i (g.1, g.2.1, g.2.2.1, true, g.2.2.2.2)).getD i nd0).2.1, ((a.set i (g.1, g.2.1, g.2.2.1, true, g.2.2.2.2)).getD i nd0).2.2.1, ((a.set i (g.1, g.2.1, g.2.2.1, true, g.2.2.2.2)).getD i nd0).2.2.2.1, v) = a.set i (g.1, g.2.1, g.2.2.1, true, v) := by
  rw [getD_set, if_pos ⟨rfl, hi⟩, List.set_set]
theorem p_tput : T_tput := by
  unfold T_tput; try dsimp only [H_SpTmt_1]
  rintro ⟨t, p, v⟩ ⟨⟨ht, hb1, hb2, hn0, hn1⟩, hw⟩
  dsimp only at ht hb1 hb2 hn0 hn1 hw ⊢
  refine ⟨t, rfl, rfl, rfl, rfl, rfl, ht, fun _ _ => ⟨p, rfl, rfl, rfl, rfl, hw, fun _ _ => ifB_b (fun hs => ?_) fun hs => ?_⟩⟩
  · have hs : saneP p = false := by simpa using hs
    rw [hs]
    exact ⟨t, rfl, rfl, rfl, rfl, rfl, rfl, rfl, trivial⟩
  have hs : saneP p = true := by simpa using hs
  obtain ⟨_, n0, n1⟩ := sane_iff.1 hs
  have hl := bitsP_length hs
  have hwd := wd_le p.2.2.1
  refine ⟨p.2.2.1, rfl, trivial, fun _ _ => ⟨fun x => 0 ≤ x.2.1 ∧ x.2.1 ≤ p.2.2.2 ∧ PutI t p x.2.1.toNat x.1 x.2.2, fun x => (p.2.2.2 - x.2.1).toNat, ⟨((if p.2.2.1 = true then 1 else 0), 0, t), ⟨Int.le_refl _, n0, ⟨ht.toTRb, fun v => ?_, fun _ _ => rfl, rfl, ?_, ?_, ⟨Nat.le_refl _, Nat.le_refl _⟩⟩⟩, rfl, rfl, rfl, rfl, rfl, rfl, rfl, trivial⟩, ?_⟩⟩
  · have := ht.live v
    show LiveB (tsel t.t0 t.t1 v) (if v = p.2.2.1 then [] else [])
    rw [ite_self]
    exact this
  · exact (ht.root _).2
  · exact (ht.root _).1.symm
  rintro ⟨at', n, u⟩ ⟨i0, i1, hI⟩
  dsimp only at i0 i1 hI ⊢
  have hmore := hI.more
  cases hsub : (u.sel p).sub ((bitsP p).take n.toNat) with
  | nil => exact absurd hsub hI.node
  | node i e l r =>
    obtain ⟨hi, v0, up, har, hv, _⟩ := hI.base.node (v6 := p.2.2.1) hsub
    have hat : at' = (i : Int) := by rw [hI.here, hsub]; rfl
    have hiT : at'.toNat = i := by omega
    have hz : ((0 : Int), (0 : Int), (0 : Int), false, (0 : Int)) = nd0 := rfl
    refine ifB_d (fun hlt => ⟨(pA p, n), rfl, rfl, rfl, rfl, ⟨hw, i0, by dsimp only; omega⟩, fun _ _ => ⟨by omega, ?_⟩⟩) fun hge => ⟨by omega, ?_⟩
    · -- one digit down
      have nn : ((n.toNat : Nat) : Int) < p.2.2.2 := by omega
      have n1' : (n + 1).toNat = n.toNat + 1 := by omega
      have hst := sub_step (R := u.sel p) hs nn hsub
      have go : ∀ kd : Tr, kd = (if (bitsA (pA p)).getD n.toNat false = true then r else l) → kd ≠ .nil → (-9223372036854775808 ≤ n + 1 ∧ n + 1 ≤ 9223372036854775807) ∧ ∃ y : Int × Int × Trie, (0 ≤ y.2.1 ∧ y.2.1 ≤ p.2.2.2 ∧ PutI t p y.2.1.toNat y.1 y.2.2) ∧ (p.2.2.2 - y.2.1).toNat < (p.2.2.2 - n).toNat ∧ kd.ix = y.1 ∧ n + 1 = y.2.1 ∧ u.ar.length = y.2.2.ar.length ∧ u.fr.length = y.2.2.fr.length ∧ u.n = y.2.2.n ∧ u.ar = y.2.2.ar ∧ u.fr = y.2.2.fr ∧ True := by
        intro kd hkd hne
        refine ⟨by omega, (kd.ix, n + 1, u), ⟨by dsimp only; omega, by dsimp only; omega, ⟨hI.base, fun v' => ?_, hI.get, hI.num, ?_, ?_, ?_⟩⟩, by dsimp only; omega, rfl, rfl, rfl, rfl, rfl, rfl, rfl, trivial⟩
        · dsimp only
          rw [n1']
          intro q' i1 e1 l1 r1 hq0 hqd hsb
          by_cases hqe : q' = (if v' = p.2.2.1 then (bitsP p).take n.toNat else [])
          · by_cases hv' : v' = p.2.2.1
            · subst hv'
              rw [if_pos rfl] at hqe
              subst hqe
              have : (tsel u.t0 u.t1 p.2.2.1).sub ((bitsP p).take n.toNat) = .node i e l r := hsub
              rw [this] at hsb
              cases hsb
              have hkk : l ≠ .nil ∨ r ≠ .nil := by
                rw [hkd] at hne
                by_cases hbb : (bitsA (pA p)).getD n.toNat false = true
                · rw [if_pos hbb] at hne; exact .inr hne
                · rw [if_neg hbb] at hne; exact .inl hne
              exact .inr hkk
            · rw [if_neg hv'] at hqe
              exact absurd hqe hq0
          · exact hI.live v' q' i1 e1 l1 r1 hq0 hqe hsb
        · dsimp only
          rw [n1', hst, ← hkd]
          exact hne
        · dsimp only
          rw [n1', hst, ← hkd]
        · dsimp only
          omega
      have grow : ∀ {ar2 : List Nd}, (if (bitsA (pA p)).getD n.toNat false = true then r else l) = .nil → ar2 = (u.take at').ar.set at'.toNat (if (bitsA (pA p)).getD n.toNat false = true then (((u.take at').ar.getD at'.toNat nd0).1, u.takeAt, ((u.take at').ar.getD at'.toNat nd0).2.2) else (u.takeAt, ((u.take at').ar.getD at'.toNat nd0).2)) →
          (-9223372036854775808 ≤ n + 1 ∧ n + 1 ≤ 9223372036854775807) ∧ ∃ y : Int × Int × Trie, (0 ≤ y.2.1 ∧ y.2.1 ≤ p.2.2.2 ∧ PutI t p y.2.1.toNat y.1 y.2.2) ∧ (p.2.2.2 - y.2.1).toNat < (p.2.2.2 - n).toNat ∧ u.takeAt = y.1 ∧ n + 1 = y.2.1 ∧ (u.take at').ar.length = y.2.2.ar.length ∧ (u.take at').fr.length = y.2.2.fr.length ∧ (u.take at').n = y.2.2.n ∧ ar2 = y.2.2.ar ∧ (u.take at').fr = y.2.2.fr ∧ True := by
        intro ar2 hk har2
        obtain ⟨u2, a1, a2, a3, a4, _⟩ := grow_step hs hI nn ⟨hb1, hb2⟩ hsub hk har2
        refine ⟨by omega, (u.takeAt, n + 1, u2), ⟨by dsimp only; omega, by dsimp only; omega, by dsimp only; rw [n1']; exact a4⟩, by dsimp only; omega, rfl, rfl, by rw [a1, har2, List.length_set], by rw [a2], a3.symm, a1.symm, a2.symm, trivial⟩
      have tk : (∀ y ∈ u.fr, 0 ≤ y ∧ y.toNat < u.ar.length) ∧ u.ar.length ≤ 2000000 ∧ u.fr.length ≤ 2000000 := ⟨hI.base.frl, hI.base.big.1, hI.base.big.2⟩
      have tl : 0 ≤ at' ∧ at' < ((u.take at').ar.length : Int) := by
        obtain ⟨j, T⟩ := took hI.base at'
        have := T.more.2.1
        omega
      rw [hz, hiT, har]
      rcases bitW_cases (pA p) n.toNat with ⟨hb, hz0⟩ | ⟨hb, hz0⟩
      · refine ifB_eq hz0 (ifB_d (fun hk => ⟨(u, at'), rfl, rfl, rfl, rfl, rfl, rfl, tk, fun _ _ => ⟨tl, ifB_eq hz0 ?_⟩⟩) fun hk => ?_)
        · have hk : l = .nil := Tr.ix_nil.1 hk
          exact grow (by rw [hb]; exact hk) (by rw [hb, hiT]; rfl)
        · exact go l (by rw [hb]; rfl) fun z => hk (Tr.ix_nil.2 z)
      · refine ifB_d (fun h => by dsimp only at h; rw [hz0] at h; omega) fun _ => ifB_eq hz0 (ifB_d (fun hk => ⟨(u, at'), rfl, rfl, rfl, rfl, rfl, rfl, tk, fun _ _ => ⟨tl, ifB_d (fun h => by dsimp only at h; rw [hz0] at h; omega) fun _ => ifB_eq hz0 ?_⟩⟩) fun hk => ?_)
        · have hk : r = .nil := Tr.ix_nil.1 hk
          exact grow (by rw [hb]; exact hk) (by rw [hb, hiT]; rfl)
        · exact go r (by rw [hb]; rfl) fun z => hk (Tr.ix_nil.2 z)
    · -- at its end
      have en : (bitsP p).take n.toNat = bitsP p := List.take_of_length_le (by omega)
      rw [en] at hsub
      have hlive := hI.live
      rw [en] at hlive
      have hset := set_two hi har v
      rw [hz, hiT, har, hset, hs]
      obtain ⟨t0', t1', B, hget, hnode, hlv⟩ := end_step hI.base (v6 := p.2.2.1) (e' := some v) hsub (ar2 := u.ar.set i (l.ix, r.ix, up, true, v)) (up := up) (v := v) (by rw [List.length_set]) (by rw [getD_set, if_pos ⟨rfl, hi⟩]; rfl) ⟨v0, har⟩ (fun x hx => by cases hx; rfl) fun k hk => by rw [getD_set, if_neg fun z => hk z.1.symm]
      have hold : t.get p.2.2.1 (bitsP p) = e := by
        rw [← hI.get]
        show Tr.get _ _ = e
        unfold Tr.get
        rw [show (tsel u.t0 u.t1 p.2.2.1).sub (bitsP p) = _ from hsub]
        rfl
      have P : ∀ n', n' = (if (t.get p.2.2.1 (bitsP p)).isSome = true then t.n else t.n + 1) → PutP t p v ⟨u.ar.set i (l.ix, r.ix, up, true, v), u.fr, n', t0', t1'⟩ := by
        intro n' hn'
        refine ⟨⟨B, fun v' => ?_⟩, fun v' q' => ?_, hn', ?_⟩
        · have := hlv (bitsP p) hlive (.inl rfl) [] (.inl ⟨rfl, rfl⟩) v'
          rw [ite_self] at this
          exact this
        · show (tsel t0' t1' v').get q' = _
          rw [hget, ← hI.get]
          rfl
        · dsimp only
          rw [List.length_set]
          omega
      have hun := hI.num
      refine ifB_b (fun he => ⟨by omega, ⟨u.ar.set i (l.ix, r.ix, up, true, v), u.fr, u.n + 1, t0', t1'⟩, P _ ?_, rfl, by rw [List.length_set], rfl, rfl, rfl, rfl, trivial⟩) fun he => ⟨⟨u.ar.set i (l.ix, r.ix, up, true, v), u.fr, u.n, t0', t1'⟩, P _ ?_, rfl, by rw [List.length_set], rfl, rfl, rfl, rfl, trivial⟩
      · rw [hold]
        have he : e.isSome = false := by simpa using he
        rw [he, hun]
        rfl
      · rw [hold]
        have he : e.isSome = true := by simpa using he
        rw [he, hun]
        rfl
end Sp
end
section
set_option linter.all false
set_option maxRecDepth 10000
namespace Sp
open Go Go.Proofs Sx Go.Proofs.YthnhbnakpmkppaaGreat.Ma
structure PruneI (t : Trie) (v6 : Bool) (q : List Bool) (d : List Bool) (at' : Int) (u : Trie) : Prop where
  base : TRb u.ar u.fr u.t0 u.t1
  live : ∀ v, LiveB (tsel u.t0 u.t1 v) (if v = v6 then d else [])
  node : (tsel u.t0 u.t1 v6).sub d ≠ .nil
  here : at' = ((tsel u.t0 u.t1 v6).sub d).ix
  get : ∀ v q', u.get v q' = t.get v q'
  n : u.n = t.n
  more : u.ar.length = t.ar.length ∧ u.fr.length + d.length ≤ t.fr.length + q.length
theorem live_all {t0 t1 : Tr} {v6 : Bool} {d : List Bool} (h : ∀ v, LiveB (tsel t0 t1 v) (if v = v6 then d else [])) {i : Nat} {e : Option Int} {l r : Tr} (hs : (tsel t0 t1 v6).sub d = .node i e l r) (hd : d = [] ∨ e.isSome = true ∨ l ≠ .nil ∨ r ≠ .nil) (v : Bool) : LiveB (tsel t0 t1 v) [] := by
  intro q i1 e1 l1 r1 h0 _ hsb
  by_cases hv : v = v6
  · subst hv
    by_cases hq : q = d
    · subst hq
      rw [hs] at hsb
      cases hsb
      exact hd.resolve_left h0
    · exact h v q i1 e1 l1 r1 h0 (by rw [if_pos rfl]; exact hq) hsb
  · exact h v q i1 e1 l1 r1 h0 (by rw [if_neg hv]; exact h0) hsb
theorem prune_stop {t u : Trie} {v6 : Bool} {q d : List Bool} {at' : Int} (h : PruneI t v6 q d at' u) {i : Nat} {e : Option Int} {l r : Tr} (hs : (tsel u.t0 u.t1 v6).sub d = .node i e l r) (hd : d = [] ∨ e.isSome = true ∨ l ≠ .nil ∨ r ≠ .nil) : PruneP t q u :=
  ⟨⟨h.base, live_all h.live hs hd⟩, h.get, h.n, h.more.1, by have := h.more.2; omega⟩
theorem cut_step {t u : Trie} {v6 : Bool} {q d' : List Bool} {b : Bool} {i j : Nat} {e' : Option Int} {l' r' : Tr} {up v : Int} (h : PruneI t v6 q (d' ++ [b]) (i : Int) u) (hbig : t.ar.length ≤ 1000000 ∧ t.fr.length ≤ 1000000 ∧ q.length ≤ 128) (hpar : (tsel u.t0 u.t1 v6).sub d' = .node j e' l' r') (hkid : (if b = true then r' else l') = leaf i)
    (har : u.ar.getD j nd0 = (l'.ix, r'.ix, up, e'.isSome, v)) {ar2 : List Nd} (har2 : ar2 = u.ar.set j ((if b = true then l'.ix else -1), (if b = true then -1 else r'.ix), up, e'.isSome, v)) :
    ∃ u2 : Trie, u2.ar = ar2 ∧ u2.fr = u.fr ++ [(i : Int)] ∧ u2.n = u.n ∧ PruneI t v6 q d' (j : Int) u2 := by
  have hne : (tsel u.t0 u.t1 v6).sub d' ≠ .nil := by rw [hpar]; exact fun k => by cases k
  obtain ⟨hR, hD, hN⟩ := h.base.sel v6
  obtain ⟨hj, v1, up1, har1, hv, _⟩ := h.base.node hpar
  obtain ⟨rest, q1, _⟩ := sub_ids hne
  rw [hpar] at q1
  have nodN : (Tr.node j e' l' r').ids.Nodup := (List.nodup_append.1 (q1.nodup_iff.1 (List.nodup_append.1 hN).1)).1
  have nd1 := List.nodup_cons.1 nodN
  have inR : ∀ k ∈ (Tr.node j e' l' r').ids, k < u.ar.length := fun k hk => ids_lt h.base (q1.mem_iff.2 (List.mem_append_left _ hk))
  have iin : i ∈ (Tr.node j e' l' r').ids := by
    cases b with
    | true => rw [show r' = leaf i from hkid]; simp [Tr.ids, leaf]
    | false => rw [show l' = leaf i from hkid]; simp [Tr.ids, leaf]
  have hi := inR i iin
  have len2 : ar2.length = u.ar.length := by rw [har2, List.length_set]
  have get2 : ∀ k, k ≠ j → ar2.getD k nd0 = u.ar.getD k nd0 := fun k hk => by rw [har2, getD_set, if_neg fun z => hk z.1.symm]
  have hrep := Tr.rep_at (p := d') hR
  rw [hpar] at hrep
  obtain ⟨⟨_, v2, h2, hv2⟩, hl, hr⟩ := hrep
  rw [har] at h2
  have upE : (tsel u.t0 u.t1 v6).upOf (-1) d' = up := (congrArg (fun z : Nd => z.2.2.1) h2).symm
  have vE : v = v2 := congrArg (fun z : Nd => z.2.2.2.2) h2
  have same : ∀ s : Tr, s.Rep u.ar (j : Int) → (∀ k ∈ s.ids, k < u.ar.length ∧ k ≠ j) → s.Rep ar2 (j : Int) := fun s hsr hk' => Tr.rep_same hsr fun k hks => by
    obtain ⟨a, b⟩ := hk' k hks
    exact ⟨by rw [len2]; exact a, get2 k b⟩
  have hRl : l'.Rep ar2 j := same l' hl fun k hk1 => ⟨inR k (by simp [Tr.ids, hk1]), fun z => nd1.1 (by rw [← z]; exact List.mem_append_left _ hk1)⟩
  have hRr : r'.Rep ar2 j := same r' hr fun k hk1 => ⟨inR k (by simp [Tr.ids, hk1]), fun z => nd1.1 (by rw [← z]; exact List.mem_append_right _ hk1)⟩
  have hDn : (Tr.node j e' l' r').Deep (wd v6 - d'.length) := by
    have := (Tr.deep_sub hD hne).2
    rwa [hpar] at this
  have hmore := h.more
  rw [List.length_append, List.length_singleton] at hmore
  have hfr2 : ∀ x ∈ u.fr ++ [(i : Int)], 0 ≤ x ∧ x.toNat < ar2.length := fun x hx => by
    rw [len2]
    rcases List.mem_append.1 hx with hx | hx
    · exact h.base.frl x hx
    · obtain rfl := List.mem_singleton.1 hx
      exact ⟨by omega, by omega⟩
  have hbig2 : ar2.length ≤ 2000000 ∧ (u.fr ++ [(i : Int)]).length ≤ 2000000 := by
    rw [len2, List.length_append, List.length_singleton]
    omega
  have fin : ∀ l2 r2 : Tr, (i :: (Tr.node j e' l2 r2).ids).Perm (Tr.node j e' l' r').ids → ar2.getD j nd0 = (l2.ix, r2.ix, up, e'.isSome, v) → l2.Rep ar2 j → r2.Rep ar2 j → (Tr.node j e' l2 r2).Deep (wd v6 - d'.length) →
      (∀ b q, ((Tr.node j e' l2 r2).sub (b :: q)).ent = ((Tr.node j e' l' r').sub (b :: q)).ent) → (∀ s i1 e1 l1 r1, s ≠ [] → (Tr.node j e' l2 r2).sub s = .node i1 e1 l1 r1 → s ≠ [b] ∧ (Tr.node j e' l' r').sub s = .node i1 e1 l1 r1) →
      ∃ u2 : Trie, u2.ar = ar2 ∧ u2.fr = u.fr ++ [(i : Int)] ∧ u2.n = u.n ∧ PruneI t v6 q d' (j : Int) u2 := by
    intro l2 r2 hperm hgi hl2 hr2 hdp hent hlv
    have B := h.base.change (ar' := ar2) (fr' := u.fr ++ [(i : Int)]) (e' := e') (l' := l2) (r' := r2) hpar (fun v k hk hno => ⟨by rw [len2]; exact ids_lt h.base hk, get2 k fun z => hno (by rw [z]; simp [Tr.ids])⟩)
      ⟨⟨by rw [len2]; exact hj, v, by rw [upE]; exact hgi, by rw [vE]; exact hv2⟩, hl2, hr2⟩ hdp (fun rest _ hnd => by
        have e1 : ((Tr.node j e' l2 r2).ids ++ (rest ++ (u.fr ++ [(i : Int)]).map Int.toNat)).Perm ((Tr.node j e' l' r').ids ++ (rest ++ u.fr.map Int.toNat)) := by
          rw [List.map_append, ← List.append_assoc, ← List.append_assoc]
          refine List.perm_append_comm.trans ?_
          rw [List.append_assoc]
          exact hperm.append_right _
        exact e1.nodup_iff.2 hnd) hfr2 hbig2
    have hnew : (tsel (ts0 u.t0 v6 (Tr.upd (fun _ => .node j e' l2 r2) d' (tsel u.t0 u.t1 v6))) (ts1 u.t1 v6 (Tr.upd (fun _ => .node j e' l2 r2) d' (tsel u.t0 u.t1 v6))) v6).sub d' = .node j e' l2 r2 := by
      have := Tr.upd_at (f := fun _ => Tr.node j e' l2 r2) (p := d') (t := tsel u.t0 u.t1 v6) [] hne
      rw [List.append_nil] at this
      rw [tsel_set, if_pos rfl]
      exact this
    refine ⟨⟨ar2, u.fr ++ [(i : Int)], u.n, _, _⟩, rfl, rfl, rfl, ⟨B, ?_, ?_, ?_, fun v' q' => ?_, h.n, ?_⟩⟩
    · refine change_live hpar h.live (fun s i1 e1 l1 r1 hs0 hsd hsb => ?_) fun q' hp hq0 hqd hqe => hp (by rw [hqe]; exact List.prefix_append _ _)
      have hs1 : s ≠ [] := fun k => hsd (by rw [k, List.append_nil])
      obtain ⟨a1, a2⟩ := hlv s i1 e1 l1 r1 hs1 hsb
      refine h.live v6 (d' ++ s) i1 e1 l1 r1 hs0 (by rw [if_pos rfl]; exact fun k => a1 (List.append_cancel_left k)) ?_
      rw [Tr.sub_app, hpar]
      exact a2
    · intro k
      have := hnew.symm.trans k
      cases this
    · exact (congrArg Tr.ix hnew).symm
    · rw [← h.get v' q']
      refine (change_get hpar hent v' q').trans ?_
      split
      · rename_i hc
        obtain ⟨rfl, rfl⟩ := hc
        show e' = Tr.get _ _
        unfold Tr.get
        rw [hpar]
        rfl
      · rfl
    · dsimp only
      rw [len2, List.length_append, List.length_singleton]
      omega
  have dn : ∀ l2 r2 : Tr, (∀ n, l'.Deep n → l2.Deep n) → (∀ n, r'.Deep n → r2.Deep n) → (l' = .nil → l2 = .nil) → (r' = .nil → r2 = .nil) → (Tr.node j e' l2 r2).Deep (wd v6 - d'.length) := by
    intro l2 r2 a1 a2 a3 a4
    cases hw : wd v6 - d'.length with
    | zero => rw [hw] at hDn; exact ⟨a3 hDn.1, a4 hDn.2⟩
    | succ n => rw [hw] at hDn; exact ⟨a1 n hDn.1, a2 n hDn.2⟩
  cases b with
  | true =>
    have hk : r' = leaf i := hkid
    subst hk
    refine fin l' .nil ?_ ?_ hRl trivial (dn l' .nil (fun _ h => h) (fun n _ => nil_deep n) id fun _ => rfl) (fun b q => ?_) fun s i1 e1 l1 r1 hs0 hsb => ?_
    · show (i :: j :: (l'.ids ++ [])).Perm (j :: (l'.ids ++ [i]))
      rw [List.append_nil]
      exact (List.Perm.swap j i l'.ids).trans ((List.perm_append_comm (l₁ := [i]) (l₂ := l'.ids)).cons j)
    · rw [har2, getD_set, if_pos ⟨rfl, hj⟩]
      rfl
    · cases b with
      | false => rfl
      | true => refine Eq.trans ?_ (leaf_ent i q).symm; rw [Tr.sub_cons]; show (Tr.nil.sub q).ent = none; rw [Tr.sub_nil]; rfl
    · cases s with
      | nil => exact absurd rfl hs0
      | cons c s =>
        cases c with
        | false => exact ⟨fun k => by simp at k, hsb⟩
        | true =>
          exfalso
          have : (Tr.nil).sub s = .node i1 e1 l1 r1 := hsb
          rw [Tr.sub_nil] at this
          cases this
  | false =>
    have hk : l' = leaf i := hkid
    subst hk
    refine fin .nil r' ?_ ?_ trivial hRr (dn .nil r' (fun n _ => nil_deep n) (fun _ h => h) (fun _ => rfl) id) (fun b q => ?_) fun s i1 e1 l1 r1 hs0 hsb => ?_
    · show (i :: j :: r'.ids).Perm (j :: i :: r'.ids)
      exact List.Perm.swap j i r'.ids
    · rw [har2, getD_set, if_pos ⟨rfl, hj⟩]
      rfl
    · cases b with
      | true => rfl
      | false => refine Eq.trans ?_ (leaf_ent i q).symm; rw [Tr.sub_cons]; show (Tr.nil.sub q).ent = none; rw [Tr.sub_nil]; rfl
    · cases s with
      | nil => exact absurd rfl hs0
      | cons c s =>
        cases c with
        | true => exact ⟨fun k => by simp at k, hsb⟩
        | false =>
          exfalso
          have : (Tr.nil).sub s = .node i1 e1 l1 r1 := hsb
          rw [Tr.sub_nil] at this
          cases this
theorem p_tprune : T_tprune := by
  unfold T_tprune; try dsimp only [H_SpTmt_3]
  rintro ⟨t, v6, q, at0⟩ hQ
  dsimp only at hQ ⊢
  have hbig := hQ.small
  refine ⟨fun x => ∃ d, PruneI t v6 q d x.1 x.2, fun x => t.fr.length + q.length - x.2.fr.length, ⟨(at0, t), ⟨q, hQ.base, hQ.live, hQ.node, hQ.here, fun _ _ => rfl, rfl, rfl, Nat.le_refl _⟩, rfl, rfl, rfl, rfl, rfl, rfl, trivial⟩, ?_⟩
  rintro ⟨at', u⟩ ⟨d, hI⟩
  dsimp only at hI ⊢
  have hmore := hI.more
  cases hsub : (tsel u.t0 u.t1 v6).sub d with
  | nil => exact absurd hsub hI.node
  | node i e l r =>
    obtain ⟨hi, v, up, har, hv, _⟩ := hI.base.node (v6 := v6) hsub
    have hat : at' = (i : Int) := by rw [hI.here, hsub]; rfl
    have hiT : at'.toNat = i := by omega
    have hz : ((0 : Int), (0 : Int), (0 : Int), false, (0 : Int)) = nd0 := rfl
    rw [hz, hiT, har]
    have stop : (d = [] ∨ e.isSome = true ∨ l ≠ .nil ∨ r ≠ .nil) → ∃ y : Trie, PruneP t q y ∧ u.ar.length = y.ar.length ∧ u.fr.length = y.fr.length ∧ u.n = y.n ∧ u.ar = y.ar ∧ u.fr = y.fr ∧ True :=
      fun hd => ⟨u, prune_stop hI hsub hd, rfl, rfl, rfl, rfl, rfl, trivial⟩
    obtain ⟨_, v0, up0, har0, _, hu0, hu1⟩ := Tr.rep_sub (hI.base.sel v6).1 hsub
    rw [har] at har0
    obtain rfl : up = up0 := congrArg (fun z : Nd => z.2.2.1) har0
    refine ⟨by omega, ifB_b (fun he => stop (.inr (.inl he))) fun he => ifB_d (fun hu => stop (.inl ?_)) fun hu => ifB_b (fun hk => stop ?_) fun hk => ?_⟩
    · rcases List.eq_nil_or_concat d with rfl | ⟨d', b, rfl⟩
      · rfl
      · exfalso
        rw [List.concat_eq_append] at hsub hu1
        have h1 := hu1 d' b rfl
        dsimp only at hu
        rw [hu] at h1
        have := Tr.ix_nil.1 h1.symm
        rw [Tr.sub_app, this, Tr.sub_nil] at hsub
        cases hsub
    · simp only [Bool.not_eq_true', Bool.and_eq_false_iff, decide_eq_false_iff_not, Tr.ix_nil] at hk
      exact .inr (.inr hk)
    · have hen : e = none := by cases e with
        | none => rfl
        | some x => simp at he
      simp only [Bool.not_eq_false', Bool.and_eq_true, decide_eq_true_eq, Tr.ix_nil] at hk
      obtain ⟨rfl, rfl⟩ := hk
      subst hen
      rcases List.eq_nil_or_concat d with rfl | ⟨d', b, rfl⟩
      · exact absurd (hu0 rfl) hu
      rw [List.concat_eq_append] at *
      have h1 := hu1 d' b rfl
      cases hpar : (tsel u.t0 u.t1 v6).sub d' with
      | nil => rw [hpar] at h1; exact absurd h1 hu
      | node j e' l' r' =>
        obtain ⟨hj, v', up', har', _, _⟩ := hI.base.node (v6 := v6) hpar
        have hup : up = (j : Int) := by rw [h1, hpar]; rfl
        have hkid : (if b = true then r' else l') = leaf i := by
          have := Tr.sub_snoc _ d' b hpar
          rw [← this, hsub]
          rfl
        have hjT : up.toNat = j := by omega
        dsimp only
        rw [hjT, har']
        have nodN : (Tr.node j e' l' r').ids.Nodup := by
          have hne : (tsel u.t0 u.t1 v6).sub d' ≠ .nil := by rw [hpar]; exact fun k => by cases k
          obtain ⟨rest, q1, _⟩ := sub_ids hne
          rw [hpar] at q1
          exact (List.nodup_append.1 (q1.nodup_iff.1 (List.nodup_append.1 (hI.base.sel v6).2.2).1)).1
        have nd1 := (List.nodup_append.1 (List.nodup_cons.1 nodN).2).2.2
        have room : (-9223372036854775808 ≤ (2 : Int) ∧ (2 : Int) ≤ 9223372036854775807) ∧ ((u.fr.length + [at'].length) * 8 ≤ 140737488355328 ∧ u.fr.length + [at'].length ≤ 140737488355328) := by
          rw [List.length_append, List.length_singleton] at hmore
          rw [List.length_singleton]
          omega
        have go : ∀ ar2 : List Nd, ar2 = u.ar.set j ((if b = true then l'.ix else -1), (if b = true then -1 else r'.ix), up', e'.isSome, v') → ∃ y : Int × Trie, (∃ d, PruneI t v6 q d y.1 y.2) ∧ t.fr.length + q.length - y.2.fr.length < t.fr.length + q.length - u.fr.length ∧ up = y.1 ∧ u.ar.length = y.2.ar.length ∧ u.fr.length + [at'].length = y.2.fr.length ∧ u.n = y.2.n ∧ ar2 = y.2.ar ∧ u.fr ++ [at'] = y.2.fr ∧ True := by
          intro ar2 har2
          subst hat
          obtain ⟨u2, a1, a2, a3, a4⟩ := cut_step hI hbig hpar hkid har' har2
          rw [List.length_append, List.length_singleton] at hmore
          refine ⟨((j : Int), u2), ⟨d', a4⟩, ?_, hup, ?_, ?_, a3.symm, a1.symm, a2.symm, trivial⟩
          · dsimp only
            rw [a2, List.length_append, List.length_singleton]
            omega
          · dsimp only
            rw [a1, har2, List.length_set]
          · dsimp only
            rw [a2, List.length_append]
        refine ⟨by omega, ?_⟩
        cases b with
        | false =>
          have hk : l' = leaf i := hkid
          have hli : l'.ix = at' := by rw [hk, hat]; rfl
          have hri : r'.ix ≠ at' := by
            intro k
            rw [hat] at k
            obtain ⟨e2, l2, r2, hr2⟩ := ix_node k
            exact nd1 i (by rw [hk]; simp [leaf, Tr.ids]) i (by rw [hr2]; simp [Tr.ids]) rfl
          refine ifB_d (fun _ => ⟨by omega, ifB_d (fun h => ?_) fun _ => ⟨room.1, room.2, go _ rfl⟩⟩) fun h => absurd hli h
          exfalso
          dsimp only at h
          rw [getD_set, if_pos ⟨rfl, hj⟩] at h
          exact hri h
        | true =>
          have hk : r' = leaf i := hkid
          have hri : r'.ix = at' := by rw [hk, hat]; rfl
          have hli : l'.ix ≠ at' := by
            intro k
            rw [hat] at k
            obtain ⟨e2, l2, r2, hr2⟩ := ix_node k
            exact nd1 i (by rw [hr2]; simp [Tr.ids]) i (by rw [hk]; simp [leaf, Tr.ids]) rfl
          refine ifB_d (fun h => absurd h hli) fun _ => ⟨by omega, ifB_d (fun _ => ⟨room.1, room.2, go _ rfl⟩) fun h => absurd hri h⟩
end Sp
end
section
set_option linter.all false
set_option maxRecDepth 10000
namespace Sp
open Go Go.Proofs Sx Go.Proofs.YthnhbnakpmkppaaGreat.Ma
theorem p_tdel : T_tdel := by
  unfold T_tdel; try dsimp only [H_SpTmt_2]
  rintro ⟨t, p⟩ ⟨⟨ht, hb1, hb2, hn0, hn1⟩, hw⟩
  dsimp only at ht hb1 hb2 hn0 hn1 hw ⊢
  refine ⟨p, rfl, rfl, rfl, rfl, hw, fun _ _ => ifB_b (fun hs => ?_) fun hs => ?_⟩
  · have hs : saneP p = false := by simpa using hs
    rw [hs]
    exact ⟨t, rfl, rfl, rfl, rfl, rfl, rfl, rfl, trivial⟩
  have hs : saneP p = true := by simpa using hs
  have hl := bitsP_length hs
  obtain ⟨_, n0, n1⟩ := sane_iff.1 hs
  have hwd := wd_le p.2.2.1
  refine ⟨(t, p), rfl, rfl, rfl, rfl, rfl, rfl, rfl, rfl, rfl, ⟨ht, hw⟩, fun _ _ => ?_⟩
  dsimp only
  rw [hs]
  have hat : t.at' p = (tsel t.t0 t.t1 p.2.2.1).sub (bitsP p) := by
    unfold Trie.at' Trie.sel
    rw [hs, if_pos rfl]
  have none' : t.get p.2.2.1 (bitsP p) = none → ∃ y : Trie, DelP t p y ∧ (2 : Int) = (if true = true then if (t.get p.2.2.1 (bitsP p)).isSome = true then 0 else 2 else 1) ∧ t.ar.length = y.ar.length ∧ t.fr.length = y.fr.length ∧ t.n = y.n ∧ t.ar = y.ar ∧ t.fr = y.fr ∧ True := by
    intro hg
    refine ⟨t, ⟨ht, fun v q => ?_, by rw [hg]; rfl, rfl, by omega⟩, by rw [hg]; rfl, rfl, rfl, rfl, rfl, rfl, trivial⟩
    split
    · rename_i hc
      obtain ⟨rfl, rfl⟩ := hc
      exact hg
    · rfl
  have hgE : t.get p.2.2.1 (bitsP p) = (t.at' p).ent := by rw [hat]; rfl
  cases hsub : t.at' p with
  | nil =>
    refine ifB_d (fun _ => none' (by rw [hgE, hsub]; rfl)) fun h => absurd rfl h
  | node i e l r =>
    have hsub' : (tsel t.t0 t.t1 p.2.2.1).sub (bitsP p) = .node i e l r := by rw [← hat]; exact hsub
    obtain ⟨hi, v, up, har, hv, _⟩ := ht.toTRb.node (v6 := p.2.2.1) hsub'
    have hz : ((0 : Int), (0 : Int), (0 : Int), false, (0 : Int)) = nd0 := rfl
    have hix : (Tr.node i e l r).ix = (i : Int) := rfl
    have hiT : ((i : Int)).toNat = i := rfl
    rw [hsub] at hgE
    rw [hix, hz, hiT, har]
    refine ifB_d (fun h => by omega) fun _ => ⟨by omega, ifB_b (fun he => none' ?_) fun he => ?_⟩
    · rw [hgE]
      have he : e.isSome = false := by simpa using he
      cases e with
      | none => rfl
      | some x => cases he
    · have he : e.isSome = true := by simpa using he
      have hg : (t.get p.2.2.1 (bitsP p)).isSome = true := by rw [hgE]; exact he
      obtain ⟨t0', t1', B, hget, hnode, hlv⟩ := end_step ht.toTRb (v6 := p.2.2.1) (e' := none) hsub' (ar2 := t.ar.set i (l.ix, r.ix, up, false, v)) (up := up) (v := v) (by rw [List.length_set]) (by rw [getD_set, if_pos ⟨rfl, hi⟩]; rfl) ⟨v, har⟩ (fun x hx => by cases hx) fun k hk => by rw [getD_set, if_neg fun z => hk z.1.symm]
      have hnn : (-9223372036854775808 ≤ t.n - 1 ∧ t.n - 1 ≤ 9223372036854775807) := by omega
      have hiI : (0 ≤ (i : Int) ∧ (i : Int) < t.ar.length) := by omega
      refine ⟨hiI, hnn, ((⟨t.ar.set i (l.ix, r.ix, up, false, v), t.fr, t.n - 1, t0', t1'⟩ : Trie), p.2.2.1, bitsP p, (i : Int)), rfl, by dsimp only; rw [List.length_set], rfl, rfl, rfl, rfl, ⟨B, ?_, ?_, ?_, ?_⟩, ?_⟩
      · exact hlv [] (fun v => by rw [ite_self]; exact ht.live v) (.inr rfl) (bitsP p) (.inr rfl)
      · intro k
        have := hnode.symm.trans k
        cases this
      · exact (congrArg Tr.ix hnode).symm
      · dsimp only
        rw [List.length_set]
        omega
      · rintro ⟨ar3, fr3, n3, a3, b3⟩ hP
        have hm := hP.more
        dsimp only at hm
        rw [List.length_set] at hm
        refine ⟨_, ⟨hP.ok, fun v' q' => ?_, ?_, ?_⟩, by rw [hg]; rfl, rfl, rfl, rfl, rfl, rfl, trivial⟩
        · rw [hP.get]
          exact hget v' q'
        · rw [hg, if_pos rfl]
          exact hP.n
        · dsimp only
          omega
theorem GT3 : Goods Tryz.prog T3 := goods_cons (good_of_owes hM hP GT2 Tryz.func224 rfl (o_ttake ▸ p_ttake)) (goods_cons (good_of_owes hM hP GT2 Tryz.func265 rfl (o_tprune ▸ p_tprune)) GT2)
theorem GT4 : Goods Tryz.prog T4 := goods_cons (good_of_owes hM hP GT3 Tryz.func160 rfl (o_tput ▸ p_tput)) (goods_cons (good_of_owes hM hP GT3 Tryz.func211 rfl (o_tdel ▸ p_tdel)) (goods_cons (good_of_owes hM hP GT2 Tryz.func263 rfl (o_tlen ▸ p_tlen)) GT3))
end Sp
end
section
set_option linter.all false
namespace Sp
open Go Go.Proofs Sx Go.Proofs.YthnhbnakpmkppaaGreat.Ma
structure Rc where
  ln : List (Int × Int)
  is : List Bool
  o : List Int
@[reducible] def lnK : List Kd := [.i .i64, .i .i64]
@[reducible] def isK : List Kd := [.b]
@[reducible] def rcC (a b : Nat) (t : Rc) : Ob := .cells [.f a t.ln.length, .f b t.is.length, .l (.i .i64 t.o.length)]
@[reducible] def rcR (t : Rc) : List Ob := [rcC 1 2 t, .row false lnK t.ln, .row false isK t.is]
@[reducible] def rcW (t : Rc) : List Ob := [rcC 1 2 t, .row true lnK t.ln, .row true isK t.is]
def Ring (ln : List (Int × Int)) : List Int → Prop
  | a :: b :: l => (ln.getD a.toNat (0, 0)).2 = b ∧ (ln.getD b.toNat (0, 0)).1 = a ∧ Ring ln (b :: l)
  | _ => True
structure okO (t : Rc) : Prop where
  len : t.ln.length = t.is.length + 1
  big : t.is.length ≤ 100000
  nd : t.o.Nodup
  mem : ∀ i : Int, i ∈ t.o ↔ 0 ≤ i ∧ i < t.is.length ∧ t.is.getD i.toNat false = true
  ring : Ring t.ln ((t.is.length : Int) :: (t.o ++ [(t.is.length : Int)]))
def inO (t : Rc) (i : Int) : Bool := decide (0 ≤ i) && decide (i < t.is.length)
@[reducible] def rcOut (t : Rc) : List (Nat × Ob) := [(0, rcC 1 2 t), (1, .row true lnK t.ln), (2, .row true isK t.is)]
structure SetO (t : Rc) (o : List Int) (u : Rc) : Prop where
  ok : okO u
  len : u.is.length = t.is.length
  o : u.o = o
def tieL (ln : List (Int × Int)) (a b : Int) : List (Int × Int) := (ln.set a.toNat ((ln.getD a.toNat (0, 0)).1, b)).set b.toNat (a, ((ln.set a.toNat ((ln.getD a.toNat (0, 0)).1, b)).getD b.toNat (0, 0)).2)
def TieO : Con := { X := Rc × Int × Int, args := fun x => [.one (.p 0 0), .i .i64 x.2.1, .i .i64 x.2.2], heap := fun x => rcW x.1, pre := fun x => (0 ≤ x.2.1 ∧ x.2.1 < x.1.ln.length) ∧ 0 ≤ x.2.2 ∧ x.2.2 < x.1.ln.length, outs := [{ Y := Unit, post := fun _ _ => True, res := fun _ _ => .tup [], out := fun x _ => [(1, .row true lnK (tieL x.1.ln x.2.1 x.2.2))], nn := 0 }] }
def TouchO : Con := { X := Rc × Int, args := fun x => [.one (.p 0 0), .i .i64 x.2], heap := fun x => rcW x.1, pre := fun x => okO x.1, outs := [{ Y := Rc, post := fun x u => SetO x.1 (if inO x.1 x.2 = true then x.2 :: x.1.o.erase x.2 else x.1.o) u, res := fun x _ => .b (inO x.1 x.2), out := fun _ u => rcOut u, nn := 0 }] }
def DropO : Con := { X := Rc × Int, args := fun x => [.one (.p 0 0), .i .i64 x.2], heap := fun x => rcW x.1, pre := fun x => okO x.1, outs := [{ Y := Rc, post := fun x u => SetO x.1 (x.1.o.erase x.2) u, res := fun x _ => .b (decide (x.2 ∈ x.1.o)), out := fun _ u => rcOut u, nn := 0 }] }
def LenO : Con := .look Rc (fun _ => [.one (.p 0 0)]) rcR okO fun t => .i .i64 t.o.length
def OrderO : Con := .row1 Rc (fun _ => [.one (.p 0 0)]) rcR 3 okO intK (fun t => t.o) fun _ a => .a a
def NewO : Con := { X := Int, args := fun m => [.i .i64 m], heap := fun _ => [], pre := fun _ => True, outs := [{ Y := Rc, post := fun m u => okO u ∧ u.o = [] ∧ (u.is.length : Int) = max 0 (min m 1024), res := fun _ _ => .a (.p 0 0), out := fun _ u => rcOut u, nn := 3 }] }
def O0 : List (Nat × Con) := (238, TieO) :: W0
def LqO : FuncId → Nat → Lan
  | 98, _ => .inv { X := Int × List Int, slots := [4, 3], vals := fun x => [.i .i64 x.1, .a (.f 20 x.2.length)], fix := [], new := [20], drop := [], obs := fun x => [.row true intK x.2] }
  | _, _ => .none
end Sp
end
section
set_option linter.all false
set_option maxRecDepth 100000
namespace Sp
open Go Go.Proofs Sx
@[reducible] def H_SpOt_1 (v1 : Rc × Int) : Prop :=
 ∃ (b1 : Rc), SetO v1.1 (v1.1.o.erase v1.2) b1 /\ false = decide (v1.2 ∈ v1.1.o) /\ v1.1.ln.length = b1.ln.length /\ v1.1.is.length = b1.is.length /\ (↑v1.1.o.length : Int) = (↑b1.o.length : Int) /\
 v1.1.ln = b1.ln /\ v1.1.is = b1.is /\ True
@[reducible] def H_SpOt_2 (v1 : Int) : Prop :=
 (0 : Int) <= max (0 : Int) (min v1 (1024 : Int)) + (1 : Int) /\ max (0 : Int) (min v1 (1024 : Int)) + (1 : Int) <= max (0 : Int) (min v1 (1024 : Int)) + (1 : Int) /\ max (0 : Int) (min v1 (1024 :
 Int)) + (1 : Int) <= (140737488355328 : Int) /\ (max (0 : Int) (min v1 (1024 : Int)) + (1 : Int)) * (16 : Int) <= (140737488355328 : Int)
@[reducible] def H_SpOt_3 (v1 : Rc × Int) : Prop :=
 ∃ (b1 : Rc), SetO v1.1 (if inO v1.1 v1.2 = true then v1.2 :: v1.1.o.erase v1.2 else v1.1.o) b1 /\ false = inO v1.1 v1.2 /\ v1.1.ln.length = b1.ln.length /\ v1.1.is.length = b1.is.length /\
 (↑v1.1.o.length : Int) = (↑b1.o.length : Int) /\ v1.1.ln = b1.ln /\ v1.1.is = b1.is /\ True
@[reducible] def H_SpOt_4 (v1 : Int) : Prop :=
 (0 : Int) <= max (0 : Int) (min v1 (1024 : Int)) /\ max (0 : Int) (min v1 (1024 : Int)) <= max (0 : Int) (min v1 (1024 : Int)) /\ max (0 : Int) (min v1 (1024 : Int)) <= (140737488355328 : Int) /\ max
 (0 : Int) (min v1 (1024 : Int)) * (1 : Int) <= (140737488355328 : Int)
def T_otie  : Prop :=
 ∀ (x : Rc × Int × Int), ((0 : Int) <= x.2.1 /\ x.2.1 < (↑x.1.ln.length : Int)) /\ (0 : Int) <= x.2.2 /\ x.2.2 < (↑x.1.ln.length : Int) -> ((0 : Int) <= x.2.1 /\ x.2.1 < (↑x.1.ln.length : Int)) /\ ((0
 : Int) <= x.2.2 /\ x.2.2 < (↑x.1.ln.length : Int)) /\ ∃ (y : Unit), True /\ (x.1.ln.set x.2.1.toNat ((x.1.ln.getD x.2.1.toNat ((0 : Int), (0 : Int))).1, x.2.2)).set x.2.2.toNat (x.2.1, ((x.1.ln.set
 x.2.1.toNat ((x.1.ln.getD x.2.1.toNat ((0 : Int), (0 : Int))).1, x.2.2)).getD x.2.2.toNat ((0 : Int), (0 : Int))).2) = tieL x.1.ln x.2.1 x.2.2 /\ True
def T_otouch  : Prop :=
 ∀ (x : Rc × Int), okO x.1 -> ifB (decide ((0 : Int) <= x.2)) (ifB (!decide (x.2 < (↑x.1.is.length : Int))) (H_SpOt_3 x) (((0 : Int) <= x.2 /\ x.2 < (↑x.1.is.length : Int)) /\ ifB (x.1.is.getD
 x.2.toNat false) (((0 : Int) <= x.2 /\ x.2 < (↑x.1.ln.length : Int)) /\ ((0 : Int) <= x.2 /\ x.2 < (↑x.1.ln.length : Int)) /\ ∃ (x_1 : Rc × Int × Int), (x.1.ln.getD x.2.toNat ((0 : Int), (0 : Int))).1
 = x_1.2.1 /\ (x.1.ln.getD x.2.toNat ((0 : Int), (0 : Int))).2 = x_1.2.2 /\ x.1.ln.length = x_1.1.ln.length /\ x.1.is.length = x_1.1.is.length /\ (↑x.1.o.length : Int) = (↑x_1.1.o.length : Int) /\
 x.1.ln = x_1.1.ln /\ x.1.is = x_1.1.is /\ (((0 : Int) <= x_1.2.1 /\ x_1.2.1 < (↑x_1.1.ln.length : Int)) /\ (0 : Int) <= x_1.2.2 /\ x_1.2.2 < (↑x_1.1.ln.length : Int)) /\ ∀ (y : Unit), True -> ((0 :
 Int) <= (↑x.1.is.length : Int) /\ (↑x.1.is.length : Int) < (↑x.1.ln.length : Int)) /\ ∃ (x_2 : Rc × Int × Int), (↑x.1.is.length : Int) = x_2.2.1 /\ x.2 = x_2.2.2 /\ x.1.ln.length = x_2.1.ln.length /\
 x.1.is.length = x_2.1.is.length /\ (↑x.1.o.length : Int) = (↑x_2.1.o.length : Int) /\ tieL x_1.1.ln x_1.2.1 x_1.2.2 = x_2.1.ln /\ x.1.is = x_2.1.is /\ (((0 : Int) <= x_2.2.1 /\ x_2.2.1 <
 (↑x_2.1.ln.length : Int)) /\ (0 : Int) <= x_2.2.2 /\ x_2.2.2 < (↑x_2.1.ln.length : Int)) /\ ∀ (y : Unit), True -> ∃ (x_3 : Rc × Int × Int), x.2 = x_3.2.1 /\ ((tieL x_1.1.ln x_1.2.1 x_1.2.2).getD
 (↑x.1.is.length : Int).toNat ((0 : Int), (0 : Int))).2 = x_3.2.2 /\ x.1.ln.length = x_3.1.ln.length /\ x.1.is.length = x_3.1.is.length /\ (↑x.1.o.length : Int) = (↑x_3.1.o.length : Int) /\ tieL
 x_2.1.ln x_2.2.1 x_2.2.2 = x_3.1.ln /\ x.1.is = x_3.1.is /\ (((0 : Int) <= x_3.2.1 /\ x_3.2.1 < (↑x_3.1.ln.length : Int)) /\ (0 : Int) <= x_3.2.2 /\ x_3.2.2 < (↑x_3.1.ln.length : Int)) /\ ∀ (y :
 Unit), True -> ∃ (y : Rc), SetO x.1 (if inO x.1 x.2 = true then x.2 :: x.1.o.erase x.2 else x.1.o) y /\ true = inO x.1 x.2 /\ x.1.ln.length = y.ln.length /\ x.1.is.length = y.is.length /\
 (↑x.1.o.length : Int) = (↑y.o.length : Int) /\ tieL x_3.1.ln x_3.2.1 x_3.2.2 = y.ln /\ x.1.is = y.is /\ True) (((0 : Int) <= x.2 /\ x.2 < (↑x.1.is.length : Int)) /\ ((-9223372036854775808 : Int) <=
 (↑x.1.o.length : Int) + (1 : Int) /\ (↑x.1.o.length : Int) + (1 : Int) <= (9223372036854775807 : Int)) /\ ((0 : Int) <= (↑x.1.is.length : Int) /\ (↑x.1.is.length : Int) < (↑x.1.ln.length : Int)) /\ ∃
 (x_1 : Rc × Int × Int), (↑x.1.is.length : Int) = x_1.2.1 /\ x.2 = x_1.2.2 /\ x.1.ln.length = x_1.1.ln.length /\ x.1.is.length = x_1.1.is.length /\ (↑x.1.o.length : Int) + (1 : Int) = (↑x_1.1.o.length
 : Int) /\ x.1.ln = x_1.1.ln /\ x.1.is.set x.2.toNat true = x_1.1.is /\ (((0 : Int) <= x_1.2.1 /\ x_1.2.1 < (↑x_1.1.ln.length : Int)) /\ (0 : Int) <= x_1.2.2 /\ x_1.2.2 < (↑x_1.1.ln.length : Int)) /\ ∀
 (y : Unit), True -> ∃ (x_2 : Rc × Int × Int), x.2 = x_2.2.1 /\ (x.1.ln.getD (↑x.1.is.length : Int).toNat ((0 : Int), (0 : Int))).2 = x_2.2.2 /\ x.1.ln.length = x_2.1.ln.length /\ x.1.is.length =
 x_2.1.is.length /\ (↑x.1.o.length : Int) + (1 : Int) = (↑x_2.1.o.length : Int) /\ tieL x_1.1.ln x_1.2.1 x_1.2.2 = x_2.1.ln /\ x.1.is.set x.2.toNat true = x_2.1.is /\ (((0 : Int) <= x_2.2.1 /\ x_2.2.1
 < (↑x_2.1.ln.length : Int)) /\ (0 : Int) <= x_2.2.2 /\ x_2.2.2 < (↑x_2.1.ln.length : Int)) /\ ∀ (y : Unit), True -> ∃ (y : Rc), SetO x.1 (if inO x.1 x.2 = true then x.2 :: x.1.o.erase x.2 else x.1.o)
 y /\ true = inO x.1 x.2 /\ x.1.ln.length = y.ln.length /\ x.1.is.length = y.is.length /\ (↑x.1.o.length : Int) + (1 : Int) = (↑y.o.length : Int) /\ tieL x_2.1.ln x_2.2.1 x_2.2.2 = y.ln /\ x.1.is.set
 x.2.toNat true = y.is /\ True))) (H_SpOt_3 x)
def T_odrop  : Prop :=
 ∀ (x : Rc × Int), okO x.1 -> ifB (decide ((0 : Int) <= x.2)) (ifB (decide (x.2 < (↑x.1.is.length : Int))) (((0 : Int) <= x.2 /\ x.2 < (↑x.1.is.length : Int)) /\ ifB (!x.1.is.getD x.2.toNat false)
 (H_SpOt_1 x) (((0 : Int) <= x.2 /\ x.2 < (↑x.1.ln.length : Int)) /\ ((0 : Int) <= x.2 /\ x.2 < (↑x.1.ln.length : Int)) /\ ∃ (x_1 : Rc × Int × Int), (x.1.ln.getD x.2.toNat ((0 : Int), (0 : Int))).1 =
 x_1.2.1 /\ (x.1.ln.getD x.2.toNat ((0 : Int), (0 : Int))).2 = x_1.2.2 /\ x.1.ln.length = x_1.1.ln.length /\ x.1.is.length = x_1.1.is.length /\ (↑x.1.o.length : Int) = (↑x_1.1.o.length : Int) /\ x.1.ln
 = x_1.1.ln /\ x.1.is = x_1.1.is /\ (((0 : Int) <= x_1.2.1 /\ x_1.2.1 < (↑x_1.1.ln.length : Int)) /\ (0 : Int) <= x_1.2.2 /\ x_1.2.2 < (↑x_1.1.ln.length : Int)) /\ ∀ (y : Unit), True -> ((0 : Int) <=
 x.2 /\ x.2 < (↑x.1.is.length : Int)) /\ ((-9223372036854775808 : Int) <= (↑x.1.o.length : Int) - (1 : Int) /\ (↑x.1.o.length : Int) - (1 : Int) <= (9223372036854775807 : Int)) /\ ∃ (y : Rc), SetO x.1
 (x.1.o.erase x.2) y /\ true = decide (x.2 ∈ x.1.o) /\ x.1.ln.length = y.ln.length /\ x.1.is.length = y.is.length /\ (↑x.1.o.length : Int) - (1 : Int) = (↑y.o.length : Int) /\ tieL x_1.1.ln x_1.2.1
 x_1.2.2 = y.ln /\ x.1.is.set x.2.toNat false = y.is /\ True)) (H_SpOt_1 x)) (H_SpOt_1 x)
def T_oorder  : Prop :=
 ∀ (x : Rc), okO x -> ∃ (I : Int × List Int -> Prop), ∃ (μ : Int × List Int -> Nat), (∃ (x : Int × List Int), I x /\ (0 : Int) = x.1 /\ (0 : Nat) = x.2.length /\ [] = x.2 /\ True) /\ ∀ (x_1 : Int ×
 List Int), I x_1 -> ifB (decide ((↑x_1.2.length : Int) < (↑x.o.length : Int))) (ifB (decide ((↑x_1.2.length : Int) = (0 : Int))) (((0 : Int) <= (↑x.is.length : Int) /\ (↑x.is.length : Int) <
 (↑x.ln.length : Int)) /\ ((x_1.2.length + [(x.ln.getD (↑x.is.length : Int).toNat ((0 : Int), (0 : Int))).2].length) * (8 : Nat) <= (140737488355328 : Nat) /\ x_1.2.length + [(x.ln.getD (↑x.is.length :
 Int).toNat ((0 : Int), (0 : Int))).2].length <= (140737488355328 : Nat)) /\ ∃ (y : Int × List Int), I y /\ μ y < μ x_1 /\ (x.ln.getD (↑x.is.length : Int).toNat ((0 : Int), (0 : Int))).2 = y.1 /\
 x_1.2.length + [(x.ln.getD (↑x.is.length : Int).toNat ((0 : Int), (0 : Int))).2].length = y.2.length /\ x_1.2 ++ [(x.ln.getD (↑x.is.length : Int).toNat ((0 : Int), (0 : Int))).2] = y.2 /\ True) (((0 :
 Int) <= x_1.1 /\ x_1.1 < (↑x.ln.length : Int)) /\ ((x_1.2.length + [(x.ln.getD x_1.1.toNat ((0 : Int), (0 : Int))).2].length) * (8 : Nat) <= (140737488355328 : Nat) /\ x_1.2.length + [(x.ln.getD
 x_1.1.toNat ((0 : Int), (0 : Int))).2].length <= (140737488355328 : Nat)) /\ ∃ (y : Int × List Int), I y /\ μ y < μ x_1 /\ (x.ln.getD x_1.1.toNat ((0 : Int), (0 : Int))).2 = y.1 /\ x_1.2.length +
 [(x.ln.getD x_1.1.toNat ((0 : Int), (0 : Int))).2].length = y.2.length /\ x_1.2 ++ [(x.ln.getD x_1.1.toNat ((0 : Int), (0 : Int))).2] = y.2 /\ True)) (∃ (y : Unit), True /\ x_1.2.length = x.o.length
 /\ x_1.2 = x.o /\ True)
def T_olen  : Prop :=
 ∀ (x : Rc), okO x -> ∃ (y : Unit), True /\ (↑x.o.length : Int) = (↑x.o.length : Int) /\ True
def T_onew  : Prop :=
 ∀ (x : Int), True -> ((-9223372036854775808 : Int) <= max (0 : Int) (min x (1024 : Int)) + (1 : Int) /\ max (0 : Int) (min x (1024 : Int)) + (1 : Int) <= (9223372036854775807 : Int)) /\ ((H_SpOt_2 x)
 /\ (H_SpOt_4 x) /\ ((0 : Int) <= max (0 : Int) (min x (1024 : Int)) /\ max (0 : Int) (min x (1024 : Int)) < (↑(max (0 : Int) (min x (1024 : Int)) + (1 : Int)).toNat : Int)) /\ ∃ (y : Rc), (okO y /\
 y.o = [] /\ (↑y.is.length : Int) = max (0 : Int) (min x (1024 : Int))) /\ (max (0 : Int) (min x (1024 : Int)) + (1 : Int)).toNat = y.ln.length /\ (max (0 : Int) (min x (1024 : Int))).toNat =
 y.is.length /\ (0 : Int) = (↑y.o.length : Int) /\ (List.replicate (max (0 : Int) (min x (1024 : Int)) + (1 : Int)).toNat ((0 : Int), (0 : Int))).set (max (0 : Int) (min x (1024 : Int))).toNat (max (0
 : Int) (min x (1024 : Int)), max (0 : Int) (min x (1024 : Int))) = y.ln /\ List.replicate (max (0 : Int) (min x (1024 : Int))).toNat false = y.is /\ True) /\ (H_SpOt_4 x) /\ (H_SpOt_2 x) /\ ((0 : Int)
 <= max (0 : Int) (min x (1024 : Int)) /\ max (0 : Int) (min x (1024 : Int)) < (↑(max (0 : Int) (min x (1024 : Int)) + (1 : Int)).toNat : Int)) /\ ∃ (y : Rc), (okO y /\ y.o = [] /\ (↑y.is.length : Int)
 = max (0 : Int) (min x (1024 : Int))) /\ (max (0 : Int) (min x (1024 : Int)) + (1 : Int)).toNat = y.ln.length /\ (max (0 : Int) (min x (1024 : Int))).toNat = y.is.length /\ (0 : Int) = (↑y.o.length :
 Int) /\ (List.replicate (max (0 : Int) (min x (1024 : Int)) + (1 : Int)).toNat ((0 : Int), (0 : Int))).set (max (0 : Int) (min x (1024 : Int))).toNat (max (0 : Int) (min x (1024 : Int)), max (0 : Int)
 (min x (1024 : Int))) = y.ln /\ List.replicate (max (0 : Int) (min x (1024 : Int))).toNat false = y.is /\ True
theorem o_otie : owes Tryz.prog (tab W0) LqO 0 238 Tryz.f238 TieO = T_otie := by kernel_rfl
theorem o_otouch : owes Tryz.prog (tab O0) LqO 3 178 Tryz.f178 TouchO = T_otouch := by kernel_rfl
theorem o_odrop : owes Tryz.prog (tab O0) LqO 3 225 Tryz.f225 DropO = T_odrop := by kernel_rfl
theorem o_oorder : owes Tryz.prog (tab W0) LqO 1 98 Tryz.f98 OrderO = T_oorder := by kernel_rfl
theorem o_olen : owes Tryz.prog (tab W0) LqO 1 161 Tryz.f161 LenO = T_olen := by kernel_rfl
theorem o_onew : owes Tryz.prog (tab W0) LqO 1 80 Tryz.f80 NewO = T_onew := by kernel_rfl
end Sp
end
