/- A symbolic walk: new variables, rows and stores. -/
import Derived.Test.YtcilcmbailoeaaaSxI
set_option linter.all false
namespace Sx
open Go
/-! ### plain facts on rows -/
theorem mapO_scal : ∀ {cs : List A} {ls : List L}, mapO scal cs = some ls → cs = ls.map A.l
  | [], ls, h => by cases h; rfl
  | c :: cs, ls, h => by
    simp only [mapO] at h
    split at h
    · rename_i b bs h1 h2
      cases h
      cases c <;> simp [scal] at h1
      subst h1
      rw [List.map_cons, ← mapO_scal h2]
    · cases h
theorem un_leaf : ∀ {k : Kd} {l : L} {x : k.T}, k.un l = some x → k.leaf x = l
  | .i k, .i k' n, x, h => by
    simp only [Kd.un] at h
    split at h
    · rename_i hk
      cases h
      subst hk
      rfl
    · cases h
  | .b, .b _, _, h => by cases h; rfl
  | .s, .s _, _, h => by cases h; rfl
  | .i _, .b _, _, h => by simp [Kd.un] at h
  | .i _, .s _, _, h => by simp [Kd.un] at h
  | .b, .i _ _, _, h => by simp [Kd.un] at h
  | .b, .s _, _, h => by simp [Kd.un] at h
  | .s, .b _, _, h => by simp [Kd.un] at h
  | .s, .i _ _, _, h => by simp [Kd.un] at h
theorem leafs_un : ∀ {ks : List Kd} {ls : List L} {y : Tup ks}, unleafs ks ls = some y → leafs ks y = ls
  | [], [], _, _ => rfl
  | [k], [l], y, h => by
    have h : k.un l = some y := h
    show [k.leaf y] = [l]
    rw [un_leaf h]
  | k :: k' :: ks, l :: ls, y, h => by
    simp only [unleafs] at h
    split at h
    · rename_i a as h1 h2
      cases h
      show k.leaf a :: leafs (k' :: ks) as = _
      rw [un_leaf h1, leafs_un h2]
    · cases h
  | [], _ :: _, _, h => by simp [unleafs] at h
  | [_], [], _, h => by simp [unleafs] at h
  | [_], _ :: _ :: _, _, h => by simp [unleafs] at h
  | _ :: _ :: _, [], _, h => by simp [unleafs] at h
theorem setAtV_eq : ∀ (us cs : List Value) (o : Nat), o + us.length ≤ cs.length → setAtV cs o us = cs.take o ++ us ++ cs.drop (o + us.length)
  | [], cs, o, _ => by simp [setAtV]
  | u :: us, cs, o, h => by
    have h' : o < cs.length := by simp at h; omega
    rw [setAtV, setAtV_eq us (cs.set o u) (o + 1) (by simp at h ⊢; omega)]
    have e := list_seg_step cs o u us (by simp at h ⊢; omega)
    simpa [Nat.add_assoc, Nat.add_comm 1] using e
section
variable {ν : Nu} {N : Nat} {w : World}
theorem lits_rel : ∀ {ls : List L} {vs : List Value}, relAs ν N (ls.map A.l) vs → vs = ls.map L.val ∧ ∀ l ∈ ls, l.wf
  | [], [], _ => ⟨rfl, by simp⟩
  | l :: ls, v :: vs, h => by
    obtain ⟨⟨⟨h1, rfl⟩, _⟩, h2⟩ := h
    obtain ⟨h3, h4⟩ := lits_rel h2
    exact ⟨by rw [h3]; rfl, fun x hx => by rcases List.mem_cons.1 hx with rfl | hx <;> first | exact h1 | exact h4 x hx⟩
  | [], _ :: _, h => h.elim
  | _ :: _, [], h => h.elim
theorem group_rel {ks : List Kd} : ∀ {n : Nat} {cs : List A} {xs : List (Tup ks)} {vs : List Value}, group ks n cs = some xs → relAs ν N cs vs → vs = flat ks xs ∧ wfT ks xs ∧ xs.length = n
  | 0, [], xs, vs, h, hr => by
    cases h
    cases vs with
    | nil => exact ⟨rfl, by simp [wfT], rfl⟩
    | cons v vs => exact hr.elim
  | n + 1, cs, xs, vs, h, hr => by
    simp only [group] at h
    split at h
    · rename_i ls h1
      split at h
      · rename_i x xs' h2 h3
        cases h
        have e1 := mapO_scal h1
        have r1 := relAs_take hr ks.length
        rw [e1] at r1
        obtain ⟨e2, w2⟩ := lits_rel r1
        obtain ⟨e3, w3, l3⟩ := group_rel h3 (relAs_drop hr ks.length)
        have e4 := leafs_un h2
        refine ⟨?_, ?_, by simp [l3]⟩
        · rw [← List.take_append_drop ks.length vs, e2, e3, ← e4]
          rfl
        · intro y hy
          rcases List.mem_cons.1 hy with rfl | hy
          · rw [e4]; exact w2
          · exact w3 y hy
      · cases h
    · cases h
  | 0, _ :: _, _, _, h, _ => by simp [group] at h
end
/-! ### new labels -/
def Nu.setB (ν : Nu) (N b : Nat) : Nu := ⟨fun l => if l = N then b else ν.blk l, ν.sv, fun l => if l = N then (· = b) else ν.fp l⟩
def Nu.setS (ν : Nu) (N : Nat) (v : Value) (f : Nat → Prop) : Nu := ⟨ν.blk, fun l => if l = N then v else ν.sv l, fun l => if l = N then f else ν.fp l⟩
theorem agree_setB (ν : Nu) (N b : Nat) : agree N ν (ν.setB N b) := fun l hl => ⟨by simp [Nu.setB, Nat.ne_of_lt hl], rfl⟩
theorem agree_setS (ν : Nu) (N : Nat) (v : Value) (f : Nat → Prop) : agree N ν (ν.setS N v f) := fun l hl => ⟨rfl, by simp [Nu.setS, Nat.ne_of_lt hl]⟩
def goneH (H : Hp) (s : Nat) : Option Nat → Hp
  | some l => hset H l s .gone
  | none => H
/-- Where a walk may go on. -/
def Goes (ν : Nu) (N : Nat) (H : Hp) (w : World) (K : R → Hp → Nat → Prop) (v : Value) (w' : World) : Prop :=
  ∃ ν' N' H' r, relR ν' N' r v ∧ hpH ν' N' w' H' ∧ Mv ν N H w ν' N' H' w' ∧ K r H' N'
section
variable {P : Program} {ν : Nu} {N : Nat} {w : World} {H : Hp}
theorem go_alloc (F : Nat → Prop) (w : World) (o : Obj) : Go1 F w (w.alloc o) := ⟨rfl, rfl, rfl, by simp, fun k hk _ => heap_alloc_old w o hk⟩
theorem st_cons (hH : hpH ν N w H) {o0 : Ob} : ∀ l o, hget ((N, N, o0) :: H) l = some o → hst ((N, N, o0) :: H) l < N + 1 := by
  intro l o hg
  rw [hget_cons] at hg
  rw [hst_cons]
  split at hg
  · rename_i h; rw [if_pos h]; exact Nat.lt_succ_self N
  · rename_i h; rw [if_neg h]; exact Nat.lt_succ_of_lt (hH.st l o hg)
theorem mono_cons {o0 : Ob} (l : Nat) : hst ((N, N, o0) :: H) l = hst H l ∨ N ≤ hst ((N, N, o0) :: H) l := by
  rw [hst_cons]
  split
  · exact .inr (Nat.le_refl _)
  · exact .inl rfl
theorem newCellsR (hH : hpH ν N w H) {cs : List A} {vs : Array Value} (T : TypeId) (hr : relAs ν N cs vs.toList) {K : R → Hp → Nat → Prop} {r : R} {v : Value} (hv : relR (ν.setB N w.heap.size) (N + 1) r v) (h : K r ((N, N, .cells cs) :: H) (N + 1)) :
    Goes ν N H w K v (w.alloc (.cells vs T)) := by
  refine ⟨ν.setB N w.heap.size, N + 1, _, r, hv, ?_, ⟨go_alloc _ _ _, ?_, agree_setB _ _ _, Nat.le_succ N, ?_, ?_⟩, h⟩
  · refine hpH_upd hH (fun l => l ≠ N) (st_cons hH) (Nat.le_succ N) (agree_setB _ _ _) (by simp) ?_ ?_ ?_ ?_ ?_
    · intro l o hl hg
      rw [hget_cons, if_neg (Ne.symm hl)] at hg
      exact ⟨hg, by simp [Nu.setB, hl]⟩
    · intro l o _ hg b hb
      exact heap_alloc_old w _ (fp_lt (hH.ob l o hg).2 hb)
    · intro l o hl hg
      have hl : l = N := Classical.not_not.1 hl
      subst hl
      rw [hget_cons, if_pos rfl] at hg
      cases hg
      refine ⟨Nat.lt_succ_self _, fun b => by simp [Nu.setB], vs, T, ?_, relAs_mono (agree_setB _ _ _) (Nat.le_succ _) hr⟩
      simp only [Nu.setB, if_pos]
      exact heap_alloc_new w _
    · intro l o hl hg b hb
      have hl : l = N := Classical.not_not.1 hl
      subst hl
      rw [hget_cons, if_pos rfl] at hg
      cases hg
      simp only [fpO, Nu.setB, if_pos] at hb
      exact .inl (by omega)
    · intro l l' o o' hne hl hl'
      exact absurd ((Classical.not_not.1 hl).trans (Classical.not_not.1 hl').symm) hne
  · rintro b ⟨l, o, hg, ho, hb⟩
    rw [hget_cons] at hg
    split at hg
    · rename_i hl
      subst hl
      simp only [Nu.setB, if_pos] at hb
      exact .inr (by omega)
    · rename_i hl
      simp only [Nu.setB, if_neg (Ne.symm hl)] at hb
      exact .inl ⟨l, o, hg, ho, hb⟩
  · intro l o hg _
    have hl : l ≠ N := Nat.ne_of_lt (hH.ob l o hg).1
    exact ⟨by rw [hget_cons, if_neg (Ne.symm hl)]; exact hg, by simp [Nu.setB, hl], fun b hb => heap_alloc_old w _ (fp_lt (hH.ob l o hg).2 hb)⟩
  · exact mono_cons
/-- A new row of the walk's own; what it was made of (if it was) is gone. -/
theorem newCells (hH : hpH ν N w H) {cs : List A} {vs : Array Value} (T : TypeId) (hr : relAs ν N cs vs.toList) {K : R → Hp → Nat → Prop} (h : K (.a (.p N 0)) ((N, N, .cells cs) :: H) (N + 1)) :
    Goes ν N H w K (.pointer (some ⟨w.heap.size, 0, none⟩)) (w.alloc (.cells vs T)) :=
  newCellsR hH T hr (r := .a (.p N 0)) (show relA (ν.setB N w.heap.size) (N + 1) (.p N 0) (.pointer (some ⟨w.heap.size, 0, none⟩)) from ⟨Nat.lt_succ_self N, by simp [Nu.setB]⟩) h
theorem newRow (hH : hpH ν N w H) {ks : List Kd} {xs : List (Tup ks)} {e : TypeId} {v : Value} {w' : World} (c : Option Nat) (hc : ∀ l, c = some l → ∃ o, hget H l = some o ∧ ownOb o = true ∧ ∀ b, v.ownBlock = some b → w.heap.size ≤ b ∨ fpO ν l o b)
    (hc0 : c = none → ∀ b, v.ownBlock = some b → w.heap.size ≤ b) (hgo : Go1 (own ν H) w w') (hgo' : ∀ l o, c ≠ some l → hget H l = some o → ∀ b, fpO ν l o b → w'.heap[b]? = w.heap[b]?) (hk : 0 < ks.length) (hw : wfT ks xs)
    (ho : w'.ownsRow 0 e ks.length v xs.length (flat ks xs)) (hok : ∃ base cap, v = .slice base xs.length cap ∧ okSl base xs.length cap) {K : R → Hp → Nat → Prop} {n : Nat} (hn : n = xs.length)
    (h : K (.a (.f N n)) ((N, N, .row true ks xs) :: goneH H N c) (N + 1)) : Goes ν N H w K v w' := by
  subst hn
  have hcN : ∀ l, c = some l → l < N := fun l hl => let ⟨o, h1, _⟩ := hc l hl; (hH.ob l o h1).1
  have hget' : ∀ l o, l ≠ N → hget ((N, N, .row true ks xs) :: goneH H N c) l = some o → (c ≠ some l ∧ hget H l = some o) ∨ (c = some l ∧ o = .gone) := by
    intro l o hl hg
    rw [hget_cons, if_neg (Ne.symm hl)] at hg
    cases c with
    | none => exact .inl ⟨nofun, hg⟩
    | some m =>
      simp only [goneH, hget_hset] at hg
      split at hg
      · rename_i hm
        cases hg
        exact .inr ⟨by rw [hm], rfl⟩
      · rename_i hm
        exact .inl ⟨fun e => hm (by cases e; rfl), hg⟩
  have hstg : ∀ l, (c = some l → hst (goneH H N c) l = N) ∧ (c ≠ some l → hst (goneH H N c) l = hst H l) := by
    intro l
    cases c with
    | none => exact ⟨nofun, fun _ => rfl⟩
    | some m =>
      simp only [goneH, hst_hset]
      exact ⟨fun e => by cases e; simp, fun e => if_neg fun h => e (by rw [h])⟩
  have hst1 : ∀ l o, hget ((N, N, Ob.row true ks xs) :: goneH H N c) l = some o → hst ((N, N, Ob.row true ks xs) :: goneH H N c) l < N + 1 := by
    intro l o hg
    rw [hst_cons]
    split
    · exact Nat.lt_succ_self N
    · rename_i hl
      rcases hget' l o (Ne.symm hl) hg with h | h
      · rw [(hstg l).2 h.1]; exact Nat.lt_succ_of_lt (hH.st l o h.2)
      · rw [(hstg l).1 h.1]; exact Nat.lt_succ_self N
  obtain ⟨base, cap, hv, hokS⟩ := hok
  refine ⟨ν.setS N v (fun b => v.ownBlock = some b), N + 1, _, .a (.f N xs.length), (show relA _ _ (.f N xs.length) _ from ⟨Nat.lt_succ_self N, by simp [Nu.setS], base, cap, by simp [Nu.setS, hv], hokS⟩), ?_, ⟨hgo, ?_, agree_setS _ _ _ _, Nat.le_succ N, ?_, ?_⟩, h⟩
  · refine hpH_upd hH (fun l => l ≠ N ∧ c ≠ some l) hst1 (Nat.le_succ N) (agree_setS _ _ _ _) hgo.size ?_ ?_ ?_ ?_ ?_
    · intro l o hl hg
      rcases hget' l o hl.1 hg with h | h
      · exact ⟨h.2, by simp [Nu.setS, hl.1]⟩
      · exact absurd h.1 hl.2
    · intro l o hl hg b hb
      exact hgo' l o hl.2 hg b hb
    · intro l o hl hg
      by_cases hlN : l = N
      · subst hlN
        rw [hget_cons, if_pos rfl] at hg
        cases hg
        refine ⟨Nat.lt_succ_self _, hk, hw, fun b => by simp [Nu.setS], e, ?_⟩
        simpa [Nu.setS] using ho
      · rcases hget' l o hlN hg with h | h
        · exact absurd ⟨hlN, h.1⟩ hl
        · rw [h.2]
          exact ⟨Nat.lt_succ_of_lt (hcN l h.1), trivial⟩
    · intro l o hl hg b hb
      by_cases hlN : l = N
      · subst hlN
        rw [hget_cons, if_pos rfl] at hg
        cases hg
        simp only [fpO, Nu.setS, if_pos] at hb
        cases c with
        | none => exact .inl (hc0 rfl b hb)
        | some m =>
          obtain ⟨om, h1, h2, h3⟩ := hc m rfl
          rcases h3 b hb with h4 | h4
          · exact .inl h4
          · exact .inr ⟨m, om, fun h => h.2 rfl, h1, h2, h4⟩
      · rcases hget' l o hlN hg with h | h
        · exact absurd ⟨hlN, h.1⟩ hl
        · rw [h.2] at hb
          exact hb.elim
    · intro l l' o o' hne hl hl' hg hg' _ b hb hb'
      by_cases hlN : l = N
      · have : l' ≠ N := fun e => hne (hlN.trans e.symm)
        rcases hget' l' o' this hg' with h | h
        · exact absurd ⟨this, h.1⟩ hl'
        · rw [h.2] at hb'
          exact hb'.elim
      · rcases hget' l o hlN hg with h | h
        · exact absurd ⟨hlN, h.1⟩ hl
        · rw [h.2] at hb
          exact hb.elim
  · rintro b ⟨l, o, hg, ho', hb⟩
    by_cases hlN : l = N
    · subst hlN
      simp only [Nu.setS, if_pos] at hb
      cases c with
      | none => exact .inr (hc0 rfl b hb)
      | some m =>
        obtain ⟨om, h1, h2, h3⟩ := hc m rfl
        rcases h3 b hb with h4 | h4
        · exact .inr h4
        · exact .inl ⟨m, om, h1, h2, by cases om <;> first | exact h4 | cases h2⟩
    · rcases hget' l o hlN hg with h | h
      · simp only [Nu.setS, if_neg hlN] at hb
        exact .inl ⟨l, o, h.2, ho', hb⟩
      · rw [h.2] at ho'
        cases ho'
  · intro l o hg he
    have hl : l ≠ N := Nat.ne_of_lt (hH.ob l o hg).1
    have hlt := hH.st l o hg
    rw [hst_cons, if_neg (Ne.symm hl)] at he
    have hcl : c ≠ some l := fun e => by rw [(hstg l).1 e] at he; omega
    refine ⟨?_, by simp [Nu.setS, hl], fun b hb => hgo' l o hcl hg b hb⟩
    rw [hget_cons, if_neg (Ne.symm hl)]
    cases c with
    | none => exact hg
    | some m => rw [goneH, hget_hset, if_neg (fun e => hcl (by rw [e]))]; exact hg
  · intro l
    rw [hst_cons]
    split
    · exact .inr (Nat.le_refl _)
    · by_cases hcl : c = some l
      · exact .inr (by rw [(hstg l).1 hcl]; exact Nat.le_refl _)
      · exact .inl ((hstg l).2 hcl)
/-- A label's own blocks written. -/
theorem setOwn (hH : hpH ν N w H) {l : Nat} {o o' : Ob} {w' : World} (hg : hget H l = some o) (ho : ownOb o = true) (ho' : ∀ b, fpO ν l o' b → fpO ν l o b) (hgo : Go1 (fun b => fpO ν l o b) w w')
    (hob : obH ν (N + 1) w' l o') {r : R} {v : Value} (hr : relR ν (N + 1) r v) {K : R → Hp → Nat → Prop} (h : K r (hset H l N o') (N + 1)) : Goes ν N H w K v w' := by
  have hown : ∀ b, fpO ν l o b → own ν H b := fun b hb => ⟨l, o, hg, ho, by cases o <;> first | exact hb | cases ho⟩
  have hge : ∀ m om, m ≠ l → hget (hset H l N o') m = some om → hget H m = some om := fun m om hm h => by rwa [hget_hset, if_neg (Ne.symm hm)] at h
  have hgl : ∀ om, hget (hset H l N o') l = some om → om = o' := fun om h => by rw [hget_hset, if_pos rfl] at h; exact (Option.some.inj h).symm
  refine ⟨ν, N + 1, _, r, hr, ?_, ⟨hgo.mono hown, ?_, fun _ _ => ⟨rfl, rfl⟩, Nat.le_succ N, ?_, ?_⟩, h⟩
  · refine hpH_upd hH (fun m => m ≠ l) (fun m om hm => by
      rw [hst_hset]
      split
      · exact Nat.lt_succ_self N
      · rename_i hne
        exact Nat.lt_succ_of_lt (hH.st m om (hge m om (Ne.symm hne) hm))) (Nat.le_succ N) (fun _ _ => ⟨rfl, rfl⟩) hgo.size ?_ ?_ ?_ ?_ ?_
    · exact fun m om hm h => ⟨hge m om hm h, rfl⟩
    · intro m om hm hg' b hb
      exact hgo.block b (fp_lt (hH.ob m om hg').2 hb) fun hb' => hH.ap m l om o hm hg' hg (.inr ho) b hb hb'
    · intro m om hm hg'
      have hm : m = l := Classical.not_not.1 hm
      subst hm
      rw [hgl om hg']
      exact ⟨Nat.lt_succ_of_lt (hH.ob _ _ hg).1, hob⟩
    · intro m om hm hg' b hb
      have hm : m = l := Classical.not_not.1 hm
      subst hm
      rw [hgl om hg'] at hb
      exact .inr ⟨m, o, fun h => h rfl, hg, ho, ho' b hb⟩
    · intro m m' om om' hne hm hm'
      exact absurd ((Classical.not_not.1 hm).trans (Classical.not_not.1 hm').symm) hne
  · rintro b ⟨m, om, hg', ho1, hb⟩
    by_cases hm : m = l
    · subst hm
      rw [hgl om hg'] at ho1
      exact .inl (hown b (ho' b (by cases o' <;> first | exact hb | cases ho1)))
    · exact .inl ⟨m, om, hge m om hm hg', ho1, hb⟩
  · intro m om hg' he
    have hlt := hH.st m om hg'
    rw [hst_hset] at he
    have hm : m ≠ l := fun e => by rw [if_pos e.symm] at he; omega
    exact ⟨by rw [hget_hset, if_neg (Ne.symm hm)]; exact hg', rfl, fun b hb => hgo.block b (fp_lt (hH.ob m om hg').2 hb) fun hb' => hH.ap m l om o hm hg' hg (.inr ho) b hb hb'⟩
  · intro m
    rw [hst_hset]
    split
    · exact .inr (Nat.le_refl _)
    · exact .inl rfl
end
end Sx
