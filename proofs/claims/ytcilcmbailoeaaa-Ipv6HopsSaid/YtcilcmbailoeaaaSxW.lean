/- A symbolic walk: regions whose order is drawn, in whole. -/
import Derived.Test.YtcilcmbailoeaaaSxV
set_option linter.all false
namespace Sx
open Go
section
variable {P : Program} {T : FuncId → Option Con} {inl : FuncId → List V → Hp → Nat → (R → Hp → Nat → Prop) → Prop} {ops : Array Oper}
theorem conj_mem : ∀ {ps : List Prop}, conj ps → ∀ p ∈ ps, p
  | [], _, _, h => by simp at h
  | [p], h, q, hq => by simp only [List.mem_singleton] at hq; rw [hq]; exact h
  | p :: p' :: ps, h, q, hq => by
    rcases List.mem_cons.1 hq with e | hq
    · rw [e]; exact h.1
    · exact conj_mem h.2 q hq
theorem edges_on {o : Oper} {S : Nat → Prop} : (∀ e ∈ o.after, Region.binds .any e = true → S e.on) ↔ ∀ e ∈ edges o, S e := by
  simp only [edges, List.mem_map, List.mem_filter]
  constructor
  · rintro h e ⟨x, ⟨h1, h2⟩, rfl⟩
    exact h x (by simpa using h1) h2
  · intro h x hx hb
    exact h _ ⟨x, ⟨by simpa using hx, hb⟩, rfl⟩
theorem ready_iff {listed : Array Bool} {i : Nat} (hs : listed.size = ops.size) : i ∈ Region.ready .any ops listed ↔ ¬ Li listed i ∧ ∃ o, ops[i]? = some o ∧ ∀ e ∈ edges o, Li listed e := by
  rw [mem_ready]
  constructor
  · rintro ⟨h1, o, h2, h3⟩
    have hi : i < listed.size := by rw [hs]; exact (Array.getElem?_eq_some_iff.1 h2).1
    exact ⟨by simpa [Li, Array.getD_eq_getD_getElem?, hi] using h1, o, h2, edges_on.1 h3⟩
  · rintro ⟨h1, o, h2, h3⟩
    have hi : i < listed.size := by rw [hs]; exact (Array.getElem?_eq_some_iff.1 h2).1
    exact ⟨by simpa [Li, Array.getD_eq_getD_getElem?, hi] using h1, o, h2, edges_on.2 h3⟩
def left (listed : Array Bool) : Nat := listed.toList.countP fun b => !b
theorem left_set {listed : Array Bool} {i : Nat} (hi : i < listed.size) (h : ¬ Li listed i) : left (listed.setIfInBounds i true) + 1 = left listed := by
  have hb : listed[i] = false := by simpa [Li, Array.getD_eq_getD_getElem?, hi] using h
  have hi' : i < listed.toList.length := by simpa using hi
  have hmem : listed.toList[i] = false := by simpa using hb
  have hpos : 0 < listed.toList.countP fun b => !b := List.countP_pos_iff.2 ⟨listed.toList[i], List.getElem_mem hi', by rw [hmem]; rfl⟩
  simp only [left, Array.toList_setIfInBounds, List.countP_set hi', hmem, Bool.not_false, Bool.not_true, if_true, Bool.false_eq_true, if_false]
  omega
theorem left_zero {listed : Array Bool} (h : left listed = 0) : ∀ i, i < listed.size → Li listed i := by
  intro i hi
  have := List.countP_eq_zero.1 h listed[i] (by simp)
  simpa [Li, Array.getD_eq_getD_getElem?, hi] using this
theorem left_pos {listed : Array Bool} (h : 0 < left listed) : ∃ i, i < listed.size ∧ ¬ Li listed i := by
  obtain ⟨b, hb, hf⟩ := List.countP_pos_iff.1 h
  obtain ⟨i, hi, rfl⟩ := List.getElem_of_mem hb
  have hi' : i < listed.size := by simpa using hi
  exact ⟨i, hi', by simpa [Li, Array.getD_eq_getD_getElem?, hi'] using hf⟩
variable {listed : Array Bool} {done : List Bool} {pend : List Nat} {ν : Nu} {σ : St} {a : Act} {w : World} {K : St → Prop}
theorem Sim.some_ready (S : Sim P ops listed done pend ν σ a w) {n : Nat} (h : regA P T inl ops (enum 0 ops.toList) (masks ops.toList []) n done σ K) (hl : 0 < left listed) : ∃ i, i ∈ Region.ready .any ops listed := by
  cases pend with
  | cons p rest =>
    obtain ⟨_, q2, o, ho, _⟩ := S.pd p (by simp)
    exact ⟨p, (ready_iff S.ls).2 ⟨q2, o, ho, S.pe.1 o ho⟩⟩
  | nil =>
    have hDL : ∀ i, Di done i → Li listed i := fun i hi => (S.dn i hi).resolve_right (by simp)
    obtain ⟨i, hi, hni⟩ := left_pos hl
    have hnd : ¬ Di done i := fun hd => hni (hDL i hd)
    have rdy : ∀ x : Nat × Oper, x ∈ enum 0 ops.toList → readyB done x.1 x.2 = true → ∃ i, i ∈ Region.ready .any ops listed := by
      intro x hx hr
      have ho := mem_os.1 hx
      obtain ⟨r1, r2⟩ := (readyB_iff ho S.ds).1 hr
      exact ⟨x.1, (ready_iff S.ls).2 ⟨fun hl => r1 (S.ld _ hl), x.2, ho, fun e he => hDL e (r2 e he)⟩⟩
    cases n with
    | zero =>
      unfold regA at h
      split at h
      · rename_i hd
        have hi' : i < done.length := by rw [S.ds, ← S.ls]; exact hi
        have := (List.all_eq_true.1 hd) _ (List.getElem_mem hi')
        exact absurd (by simpa [Di, List.getD_eq_getElem?_getD, List.getElem?_eq_getElem hi'] using this) hnd
      · exact h.elim
    | succ n =>
      cases hf : firstF P done (enum 0 ops.toList) with
      | some x =>
        obtain ⟨h1, h2, _⟩ := firstF_some _ hf
        exact rdy x h1 h2
      | none =>
        unfold regA at h
        rw [hf] at h
        simp only at h
        split at h
        · exact h.elim
        · rename_i hxs
          obtain ⟨y, hm⟩ := List.exists_mem_of_ne_nil _ hxs
          obtain ⟨h1, h2⟩ := List.mem_filter.1 hm
          exact rdy y h1 h2
theorem regA_sound (hT : ∀ f S, T f = some S → Good P f S) (hI : InlOK P inl) {as : List Nat} (has : ∀ (i : Nat) (o : Oper), ops[i]? = some o → ∀ t ∈ tch ops o, t ∈ as) (hk : okReg P ops = true) {Q : Exit → Act → World → Prop} :
    ∀ (m : Nat) {listed : Array Bool} {done : List Bool} {pend : List Nat} {ν : Nu} {σ : St} {a : Act} {w : World} {K : St → Prop} {n : Nat}, left listed = m → Sim P ops listed done pend ν σ a w → regA P T inl ops (enum 0 ops.toList) (masks ops.toList []) n done σ K →
    (∀ a' w', Lands as ν σ w K a' w' → Q .normal a' w') → wpAny P .any ops Q m listed a w
  | 0, listed, done, pend, ν, σ, a, w, K, n, hl, S, h, hQ => by
    have hall := left_zero hl
    have hlt : ∀ (i : Nat) (o : Oper), ops[i]? = some o → Li listed i := fun i o ho => hall i (by rw [S.ls]; exact (Array.getElem?_eq_some_iff.1 ho).1)
    have hr : Region.ready .any ops listed = [] := by
      apply List.eq_nil_iff_forall_not_mem.2
      intro i hi
      obtain ⟨h1, o, h2, _⟩ := (ready_iff S.ls).1 hi
      exact h1 (hlt i o h2)
    refine ⟨hr, hQ a w ?_⟩
    have hp : pend = [] := by
      cases pend with
      | nil => rfl
      | cons p rest =>
        obtain ⟨_, q2, o, ho, _⟩ := S.pd p (by simp)
        exact absurd (hlt p o ho) q2
    subst hp
    have hK : K σ := by
      have hnot : ∀ x : Nat × Oper, x ∈ enum 0 ops.toList → readyB done x.1 x.2 = true → False := by
        intro x hx hr
        have ho := mem_os.1 hx
        exact ((readyB_iff ho S.ds).1 hr).1 (S.ld _ (hlt _ _ ho))
      cases n with
      | zero =>
        unfold regA at h
        split at h
        · exact h
        · exact h.elim
      | succ n =>
        cases hf : firstF P done (enum 0 ops.toList) with
        | some x => exact (hnot x (firstF_some _ hf).1 (firstF_some _ hf).2.1).elim
        | none =>
          unfold regA at h
          rw [hf] at h
          simp only at h
          split at h
          · exact h.elim
          · rename_i hxs
            obtain ⟨y, hm⟩ := List.exists_mem_of_ne_nil _ hxs
            obtain ⟨h1, h2⟩ := List.mem_filter.1 hm
            exact (hnot y h1 h2).elim
    refine ⟨ν, σ, ⟨⟨S.rl, fun t => (S.rt t).resolve_left fun ⟨i, hi, _⟩ => by simp at hi⟩, S.df, S.hH⟩, Mv.stay _ _ _ _ _ (Nat.le_refl _), Kp.refl _ _, hK⟩
  | m + 1, listed, done, pend, ν, σ, a, w, K, n, hl, S, h, hQ => by
    refine ⟨fun hr => ?_, fun i hi => ?_⟩
    · obtain ⟨i, hi⟩ := S.some_ready h (by omega)
      rw [hr] at hi
      simp at hi
    · obtain ⟨hni, o, ho, he⟩ := (ready_iff S.ls).1 hi
      have hlt : i < listed.size := by rw [S.ls]; exact (Array.getElem?_eq_some_iff.1 ho).1
      have hl' : left (listed.setIfInBounds i true) = m := by have := left_set hlt hni; omega
      obtain ⟨n', done', pend', σ', S', h', hkp, hH', hnx', hfn⟩ := S.ahead has hk h
      have hmv0 : Mv ν σ.nx σ.H w ν σ'.nx σ'.H w := by rw [hH', hnx']; exact Mv.stay _ _ _ _ _ (Nat.le_refl _)
      unfold wpOp
      rw [ho]
      simp only
      by_cases hd : Di done' i
      · have hip : i ∈ pend' := (S'.dn i hd).resolve_left hni
        obtain ⟨v, hv, S2⟩ := S'.catch hk ho hip he
        have ih := regA_sound hT hI has hk m hl' S2 h' fun a' w' hland => hQ a' w' (hland.head S.hH hmv0 hkp)
        rcases hv with ⟨h1, h2⟩ | ⟨h1, rfl⟩
        · rw [if_pos h1]
          exact .inl (wp_of_run h2 ih)
        · rw [if_neg (by simp [h1])]
          exact ih
      · have hr : readyB done' i o = true := (readyB_iff ho S'.ds).2 ⟨hd, fun e hee => S'.ld e (he e hee)⟩
        have hc : chainOp P o.op = true := firstF_none _ hfn (i, o) (mem_os.2 ho) hr
        have hdst : ∀ t, o.dst = some t → t ∈ as := fun t ht => has i o ho t (by simp [tch, ht])
        obtain ⟨hsee, _⟩ := S'.sees hk ho he
        cases n' with
        | zero =>
          unfold regA at h'
          split at h'
          · rename_i hall
            have hi' : i < done'.length := by rw [S'.ds, ← S'.ls]; exact hlt
            have := (List.all_eq_true.1 hall) _ (List.getElem_mem hi')
            exact absurd (by simpa [Di, List.getD_eq_getElem?_getD, List.getElem?_eq_getElem hi'] using this) hd
          · exact h'.elim
        | succ n' =>
          unfold regA at h'
          rw [hfn] at h'
          simp only at h'
          have hm : (i, o) ∈ (enum 0 ops.toList).filter fun x => readyB done' x.1 x.2 := List.mem_filter.2 ⟨mem_os.2 ho, hr⟩
          split at h'
          · rename_i hnil
            rw [hnil] at hm
            simp at hm
          · have h2 := conj_mem h' _ (List.mem_map.2 ⟨(i, o), hm, rfl⟩)
            have hg : gval ops o (blank (lag ops pend') σ'.tmps) = gval ops o σ'.tmps := gval_congr fun t ht => blank_no (hsee t (by simp [looks, ht]))
            have hev : ∀ x ∈ o.op.operands, ev (blank (lag ops pend') σ'.tmps) x = ev σ'.tmps x := ev_reads fun t ht => blank_no (hsee t (by simp [looks, ht]))
            rcases guardK_cases h2 with ⟨h1, h2⟩ | ⟨h1, h2⟩
            · rw [if_pos (gval_sound S'.tm (hg.trans h1))]
              refine .inl ?_
              simp only at h2
              rw [← opK_congr hev] at h2
              refine opK_sound hT hI S'.tm S'.hH h2 ?_
              rintro v w1 ⟨ν1, N1, H1, r, hrel, hH1, hm1, hK1⟩
              unfold ifB at hK1
              split at hK1
              · rename_i hst
                have S2 := S'.turn hk ho hr hc he hrel hH1 hm1 hst
                exact regA_sound hT hI has hk m hl' S2 hK1 fun a' w' hland => hQ a' w' (hland.head S.hH (hmv0.trans S.hH.st hm1) (hkp.trans (Kp.put as _ r hdst)))
              · exact hK1.elim
            · rw [if_neg (by simp [gval_sound S'.tm (hg.trans h1)])]
              have hst : still P (enum 0 ops.toList) done' ((masks ops.toList []).getD i 0) σ'.tmps σ'.H σ'.H = true := by
                unfold still
                rw [List.all_eq_true]
                intro x _
                cases heapOf σ'.tmps x.2.op <;> simp
              have S2 := S'.turn (v := undef) hk ho hr hc he relR_unit S'.hH (Mv.stay _ _ _ _ _ (Nat.le_refl _)) hst
              exact regA_sound hT hI has hk m hl' S2 h2 fun a' w' hland => hQ a' w' (hland.head (σ1 := ⟨put σ'.tmps o.dst .unit, σ'.H, σ'.nx⟩) S.hH hmv0 (hkp.trans (Kp.put as _ _ hdst)))
end
end Sx
