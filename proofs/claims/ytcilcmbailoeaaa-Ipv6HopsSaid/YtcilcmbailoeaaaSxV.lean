/- A symbolic walk: regions whose order is drawn: what may lag behind. -/
import Derived.Test.YtcilcmbailoeaaaSxU
set_option linter.all false
namespace Sx
open Go
abbrev Li (l : Array Bool) (i : Nat) : Prop := l.getD i false = true
abbrev Di (d : List Bool) (i : Nat) : Prop := d.getD i false = true
def lag (ops : Array Oper) (pend : List Nat) (t : Nat) : Prop := ∃ i ∈ pend, ∃ o, ops[i]? = some o ∧ o.dst = some t
structure Sim (P : Program) (ops : Array Oper) (listed : Array Bool) (done : List Bool) (pend : List Nat) (ν : Nu) (σ : St) (a : Act) (w : World) : Prop where
  ls : listed.size = ops.size
  ds : done.length = ops.size
  pd : ∀ i ∈ pend, Di done i ∧ ¬ Li listed i ∧ ∃ o, ops[i]? = some o ∧ chainOp P o.op = false ∧ Prom P ops σ o
  dn : ∀ i, Di done i → Li listed i ∨ i ∈ pend
  ld : ∀ i, Li listed i → Di done i
  cl : Cl ops (Li listed)
  cd : Cl ops (Di done)
  pe : PE ops (Li listed) pend
  rl : σ.tmps.length = a.tmps.size
  rt : ∀ t, lag ops pend t ∨ relR ν σ.nx (σ.tmps.getD t .junk) (a.tmps.getD t undef)
  df : a.defers = []
  hH : hpH ν σ.nx w σ.H
theorem getD_set_list {d : List Bool} {i j : Nat} : (d.set i true).getD j false = true ↔ (j = i ∧ i < d.length) ∨ d.getD j false = true := by
  by_cases h : j = i
  · subst h
    by_cases hl : j < d.length
    · simp [List.getD_eq_getElem?_getD, List.getElem?_set, hl]
    · simp [List.getD_eq_getElem?_getD, List.getElem?_set, hl]
  · simp [List.getD_eq_getElem?_getD, List.getElem?_set, Ne.symm h, h]
theorem getD_set_arr {d : Array Bool} {i j : Nat} : (d.setIfInBounds i true).getD j false = true ↔ (j = i ∧ i < d.size) ∨ d.getD j false = true := by
  by_cases h : j = i
  · subst h
    by_cases hl : j < d.size
    · simp [Array.getD_eq_getD_getElem?, Array.getElem?_setIfInBounds, hl]
    · simp [Array.getD_eq_getD_getElem?, Array.getElem?_setIfInBounds, hl]
  · simp [Array.getD_eq_getD_getElem?, Array.getElem?_setIfInBounds, Ne.symm h, h]
section
variable {P : Program} {T : FuncId → Option Con} {inl : FuncId → List V → Hp → Nat → (R → Hp → Nat → Prop) → Prop} {ops : Array Oper} {listed : Array Bool} {done : List Bool} {pend : List Nat} {ν : Nu} {σ : St} {a : Act} {w : World}
theorem readyB_iff {i : Nat} {o : Oper} (ho : ops[i]? = some o) (hd : done.length = ops.size) : readyB done i o = true ↔ ¬ Di done i ∧ ∀ e ∈ edges o, Di done e := by
  have hi : i < done.length := by rw [hd]; exact (Array.getElem?_eq_some_iff.1 ho).1
  simp [readyB, Di, List.getD_eq_getElem?_getD, List.getElem?_eq_getElem hi]
theorem firstF_cons (x : Nat × Oper) (xs : List (Nat × Oper)) : firstF P done (x :: xs) = if readyB done x.1 x.2 && !chainOp P x.2.op then some x else firstF P done xs := by
  show (match readyB done x.1 x.2 && !chainOp P x.2.op with | true => some x | false => firstF P done xs) = _
  generalize (readyB done x.1 x.2 && !chainOp P x.2.op) = b
  cases b <;> rfl
theorem firstF_some {x : Nat × Oper} (os : List (Nat × Oper)) : firstF P done os = some x → x ∈ os ∧ readyB done x.1 x.2 = true ∧ chainOp P x.2.op = false := by
  induction os with
  | nil => intro h; cases h
  | cons y os ih =>
    intro h
    rw [firstF_cons] at h
    generalize hr : readyB done y.1 y.2 = b at h
    generalize hc : chainOp P y.2.op = c at h
    cases b <;> cases c
    · exact ⟨List.mem_cons_of_mem _ (ih h).1, (ih h).2⟩
    · exact ⟨List.mem_cons_of_mem _ (ih h).1, (ih h).2⟩
    · have h := Option.some.inj h
      subst h
      exact ⟨List.mem_cons_self, hr, hc⟩
    · exact ⟨List.mem_cons_of_mem _ (ih h).1, (ih h).2⟩
theorem firstF_none (os : List (Nat × Oper)) : firstF P done os = none → ∀ x ∈ os, readyB done x.1 x.2 = true → chainOp P x.2.op = true := by
  induction os with
  | nil => intro _ x hx; cases hx
  | cons y os ih =>
    intro h x hx hr
    rw [firstF_cons] at h
    rcases List.mem_cons.1 hx with e | hx
    · subst e
      rw [hr] at h
      generalize chainOp P x.2.op = c at h ⊢
      cases c
      · cases h
      · rfl
    · refine ih ?_ x hx hr
      generalize (readyB done y.1 y.2 && !chainOp P y.2.op) = b at h
      cases b
      · exact h
      · cases h
theorem mem_os {i : Nat} {o : Oper} : (i, o) ∈ enum 0 ops.toList ↔ ops[i]? = some o := by rw [enum_mem]; simp
theorem Sim.tm (S : Sim P ops listed done pend ν σ a w) : relT ν σ.nx (blank (lag ops pend) σ.tmps) a.tmps := by
  refine ⟨by rw [blank_len, S.rl], fun t => ?_⟩
  by_cases h : lag ops pend t
  · rw [blank_yes h]; exact relR_junk _
  · rw [blank_no h]; exact (S.rt t).resolve_left h
/-- What is ready reads nothing that lags behind. -/
theorem Sim.sees (S : Sim P ops listed done pend ν σ a w) (hk : okReg P ops = true) {i : Nat} {o : Oper} (ho : ops[i]? = some o) (he : ∀ e ∈ edges o, Li listed e) : (∀ t ∈ looks ops o, ¬ lag ops pend t) ∧ (∀ j ∈ pend, j ≠ i → ∀ oj, ops[j]? = some oj → ∀ t, oj.dst = some t → t ∉ names ops o) := by
  have key : ∀ j ∈ pend, j ≠ i → ∀ oj, ops[j]? = some oj → ∀ t, oj.dst = some t → t ∉ names ops o := by
    intro j hj hne oj hoj t ht hn
    obtain ⟨_, h2, o', ho', hc, _⟩ := S.pd j hj
    rw [hoj] at ho'
    cases ho'
    rcases (okReg_spec hk hoj ho ht).2 hne hn with h | ⟨h, _⟩
    · exact h2 (mask_in S.cl i ho he h)
    · rw [hc] at h; cases h
  refine ⟨fun t ht => ?_, key⟩
  rintro ⟨j, hj, oj, hoj, hd⟩
  by_cases hne : j = i
  · subst hne
    rw [ho] at hoj
    cases hoj
    obtain ⟨_, _, o', ho', hc, _⟩ := S.pd j hj
    rw [ho] at ho'
    cases ho'
    rcases (okReg_spec hk ho ho hd).1 rfl with h | h
    · rw [hc] at h; cases h
    · exact h ht
  · exact key j hj hne oj hoj t hd (by simp [names, ht])
theorem Sim.float (S : Sim P ops listed done pend ν σ a w) (hk : okReg P ops = true) {i : Nat} {o : Oper} (ho : ops[i]? = some o) (hr : readyB done i o = true) (hc : chainOp P o.op = false) {r : R}
    (h : (gval ops o σ.tmps = some true ∧ (fl P σ.tmps σ.H o.op).Out r) ∨ (gval ops o σ.tmps = some false ∧ r = .unit)) : Sim P ops listed (done.set i true) (pend ++ [i]) ν ⟨put σ.tmps o.dst r, σ.H, σ.nx⟩ a w := by
  obtain ⟨hnd, hed⟩ := (readyB_iff ho S.ds).1 hr
  have hi : i < done.length := by rw [S.ds]; exact (Array.getElem?_eq_some_iff.1 ho).1
  have hset : ∀ j, Di (done.set i true) j ↔ j = i ∨ Di done j := fun j => getD_set_list.trans ⟨fun h => h.imp And.left id, fun h => h.imp (fun e => ⟨e, hi⟩) id⟩
  have hself : ∀ t, o.dst = some t → t ∉ looks ops o := fun t ht => ((okReg_spec hk ho ho ht).1 rfl).resolve_left (by simp [hc])
  have hlk : ∀ t ∈ looks ops o, (put σ.tmps o.dst r).getD t .junk = σ.tmps.getD t .junk := fun t ht => put_no fun e => hself t e ht
  refine ⟨S.ls, by simp [S.ds], ?_, ?_, fun j hj => (hset j).2 (.inr (S.ld j hj)), S.cl, ?_, ?_, ?_, ?_, S.df, S.hH⟩
  · intro j hj
    rcases List.mem_append.1 hj with hj | hj
    · obtain ⟨h1, h2, oj, hoj, hcj, hp⟩ := S.pd j hj
      refine ⟨(hset j).2 (.inr h1), h2, oj, hoj, hcj, ?_⟩
      have hne : i ≠ j := fun e => hnd (e ▸ h1)
      refine hp.keep (fun t ht => put_no fun e => ?_) fun l ob _ hl => hl
      rcases (okReg_spec hk ho hoj e).2 hne ht with h | ⟨h, _⟩
      · exact hnd (mask_in S.cd j hoj (S.cd j oj hoj h1) h)
      · rw [hc] at h; cases h
    · simp only [List.mem_singleton] at hj
      subst hj
      refine ⟨(hset _).2 (.inl rfl), fun hl => hnd (S.ld _ hl), o, ho, hc, ?_⟩
      have hg : gval ops o (put σ.tmps o.dst r) = gval ops o σ.tmps := gval_congr fun t ht => hlk t (by simp [looks, ht])
      have hf : fl P (put σ.tmps o.dst r) σ.H o.op = fl P σ.tmps σ.H o.op := fl_congr (ev_reads fun t ht => hlk t (by simp [looks, ht]))
      rcases h with ⟨h1, h2⟩ | ⟨h1, rfl⟩
      · exact .inl ⟨hg.trans h1, r, by rw [hf]; exact h2, isp_put _ _ _⟩
      · exact .inr ⟨hg.trans h1, isp_put _ _ _⟩
  · intro j hj
    rcases (hset j).1 hj with rfl | hj
    · exact .inr (by simp)
    · exact (S.dn j hj).imp id fun h => by simp [h]
  · intro j oj hoj hj e he
    rcases (hset j).1 hj with rfl | hj
    · rw [ho] at hoj
      cases hoj
      exact (hset e).2 (.inr (hed e he))
    · exact (hset e).2 (.inr (S.cd j oj hoj hj e he))
  · refine S.pe.snoc fun o' ho' e he => ?_
    rw [ho] at ho'
    cases ho'
    exact S.dn e (hed e he)
  · cases hd : o.dst <;> simp [put, S.rl]
  · intro t
    by_cases ht : o.dst = some t
    · exact .inl ⟨i, by simp, o, ho, ht⟩
    · rcases S.rt t with ⟨j, hj, x⟩ | hx
      · exact .inl ⟨j, by simp [hj], x⟩
      · refine .inr ?_
        show relR ν σ.nx ((put σ.tmps o.dst r).getD t .junk) _
        rw [put_no ht]
        exact hx
/-- What can be done ahead is done ahead. -/
theorem Sim.ahead {as : List Nat} (has : ∀ (i : Nat) (o : Oper), ops[i]? = some o → ∀ t ∈ tch ops o, t ∈ as) (hk : okReg P ops = true) {K : St → Prop} : ∀ {n : Nat} {done : List Bool} {pend : List Nat} {σ : St}, Sim P ops listed done pend ν σ a w → regA P T inl ops (enum 0 ops.toList) (masks ops.toList []) n done σ K →
    ∃ n' done' pend' σ', Sim P ops listed done' pend' ν σ' a w ∧ regA P T inl ops (enum 0 ops.toList) (masks ops.toList []) n' done' σ' K ∧ Kp as σ.tmps σ'.tmps ∧ σ'.H = σ.H ∧ σ'.nx = σ.nx ∧ firstF P done' (enum 0 ops.toList) = none
  | 0, done, pend, σ, S, h => by
    refine ⟨0, done, pend, σ, S, h, Kp.refl _ _, rfl, rfl, ?_⟩
    unfold regA at h
    split at h
    · rename_i hd
      cases hf : firstF P done (enum 0 ops.toList) with
      | none => rfl
      | some x =>
        obtain ⟨h1, h2, _⟩ := firstF_some _ hf
        have ho : ops[x.1]? = some x.2 := mem_os.1 h1
        have hi : x.1 < done.length := by rw [S.ds]; exact (Array.getElem?_eq_some_iff.1 ho).1
        have := ((readyB_iff ho S.ds).1 h2).1
        refine absurd ?_ this
        have := (List.all_eq_true.1 hd) _ (List.getElem_mem hi)
        simpa [Di, List.getD_eq_getElem?_getD, List.getElem?_eq_getElem hi] using this
    · exact h.elim
  | n + 1, done, pend, σ, S, h => by
    cases hf : firstF P done (enum 0 ops.toList) with
    | none => exact ⟨n + 1, done, pend, σ, S, h, Kp.refl _ _, rfl, rfl, hf⟩
    | some x =>
      obtain ⟨h1, h2, h3⟩ := firstF_some _ hf
      have ho : ops[x.1]? = some x.2 := mem_os.1 h1
      unfold regA at h
      rw [hf] at h
      simp only at h
      have hao : ∀ t, x.2.dst = some t → t ∈ as := fun t ht => has x.1 x.2 ho t (by simp [tch, ht])
      rcases guardK_cases h with ⟨hg, hy⟩ | ⟨hg, hy⟩
      · obtain ⟨r, hr1, hr2⟩ := Fl.holds_out hy
        obtain ⟨n', done', pend', σ', q1, q2, q3, q4, q5, q6⟩ := Sim.ahead has hk (S.float hk ho h2 h3 (.inl ⟨hg, hr1⟩)) hr2
        exact ⟨n', done', pend', σ', q1, q2, (Kp.put as _ r hao).trans q3, q4, q5, q6⟩
      · obtain ⟨n', done', pend', σ', q1, q2, q3, q4, q5, q6⟩ := Sim.ahead has hk (S.float hk ho h2 h3 (.inr ⟨hg, rfl⟩)) hy
        exact ⟨n', done', pend', σ', q1, q2, (Kp.put as _ _ hao).trans q3, q4, q5, q6⟩
/-- What lagged behind has caught up. -/
theorem Sim.catch (S : Sim P ops listed done pend ν σ a w) (hk : okReg P ops = true) {i : Nat} {o : Oper} (ho : ops[i]? = some o) (hi : i ∈ pend) (he : ∀ e ∈ edges o, Li listed e) :
    ∃ v, ((Region.wanted o (yielded ops a.tmps) = true ∧ (execOp a.eval o).run P w = .ok (.value v) w) ∨ (Region.wanted o (yielded ops a.tmps) = false ∧ v = undef)) ∧
      Sim P ops (listed.setIfInBounds i true) done (pend.filter (· != i)) ν σ (a.put o.dst v) w := by
  obtain ⟨hd, hnl, o', ho', hc, hp⟩ := S.pd i hi
  rw [ho] at ho'
  cases ho'
  obtain ⟨hsee, hsee2⟩ := S.sees hk ho he
  have hlt : i < listed.size := by rw [S.ls]; exact (Array.getElem?_eq_some_iff.1 ho).1
  have hset : ∀ j, Li (listed.setIfInBounds i true) j ↔ j = i ∨ Li listed j := fun j => getD_set_arr.trans ⟨fun h => h.imp And.left id, fun h => h.imp (fun e => ⟨e, hlt⟩) id⟩
  have hg : gval ops o (blank (lag ops pend) σ.tmps) = gval ops o σ.tmps := gval_congr fun t ht => blank_no (hsee t (by simp [looks, ht]))
  have hf : fl P (blank (lag ops pend) σ.tmps) σ.H o.op = fl P σ.tmps σ.H o.op := fl_congr (ev_reads fun t ht => blank_no (hsee t (by simp [looks, ht])))
  have fin : ∀ r v, Isp σ.tmps o.dst r → relR ν σ.nx r v → Sim P ops (listed.setIfInBounds i true) done (pend.filter (· != i)) ν σ (a.put o.dst v) w := by
    intro r v hisp hrel
    refine ⟨by simp [S.ls], S.ds, ?_, ?_, ?_, ?_, S.cd, ?_, ?_, ?_, ?_, S.hH⟩
    · intro j hj
      obtain ⟨hj1, hj2⟩ := List.mem_filter.1 hj
      obtain ⟨q1, q2, q3⟩ := S.pd j hj1
      refine ⟨q1, fun hl => ?_, q3⟩
      rcases (hset j).1 hl with h | h
      · simp [h] at hj2
      · exact q2 h
    · intro j hj
      by_cases hji : j = i
      · exact .inl ((hset j).2 (.inl hji))
      · exact (S.dn j hj).imp (fun h => (hset j).2 (.inr h)) fun h => List.mem_filter.2 ⟨h, by simpa using hji⟩
    · intro j hj
      rcases (hset j).1 hj with rfl | hj
      · exact hd
      · exact S.ld j hj
    · intro j oj hoj hj e hee
      rcases (hset j).1 hj with rfl | hj
      · rw [ho] at hoj
        cases hoj
        exact (hset e).2 (.inr (he e hee))
      · exact (hset e).2 (.inr (S.cl j oj hoj hj e hee))
    · exact S.pe.erase.mono fun e he => (hset e).2 (he.elim .inr .inl)
    · cases hdd : o.dst <;> simp [Act.put, S.rl]
    · intro t
      by_cases ht : o.dst = some t
      · refine .inr ?_
        by_cases htl : t < a.tmps.size
        · have : (a.put o.dst v).tmps.getD t undef = v := by simp [ht, Act.put, Array.getD_eq_getD_getElem?, Array.getElem?_setIfInBounds, htl]
          rw [this]
          rcases hisp t ht with h | h <;> rw [h]
          · exact hrel
          · exact relR_junk _
        · have : σ.tmps.getD t .junk = .junk := by
            have hl := S.rl
            simp [List.getD_eq_getElem?_getD, List.getElem?_eq_none (show σ.tmps.length ≤ t by omega)]
          rw [this]
          exact relR_junk _
      · have hsame : (a.put o.dst v).tmps.getD t undef = a.tmps.getD t undef := by
          cases hdd : o.dst with
          | none => rfl
          | some d =>
            have : d ≠ t := fun e => ht (by rw [hdd, e])
            simp [Act.put, Array.getD_eq_getD_getElem?, Array.getElem?_setIfInBounds, this]
        rw [hsame]
        rcases S.rt t with ⟨j, hj, oj, hoj, hdj⟩ | hx
        · refine .inl ⟨j, List.mem_filter.2 ⟨hj, ?_⟩, oj, hoj, hdj⟩
          have : j ≠ i := fun e => by
            subst e
            rw [ho] at hoj
            cases hoj
            exact ht hdj
          simpa using this
        · exact .inr hx
    · cases hdd : o.dst <;> simp [Act.put, S.df]
  rcases hp with ⟨h1, r, h2, h3⟩ | ⟨h1, h2⟩
  · obtain ⟨v, hv1, hv2⟩ := fl_sound (o := o) S.tm S.hH (by rw [hf]; exact h2)
    exact ⟨v, .inl ⟨gval_sound S.tm (hg.trans h1), hv2⟩, fin r v h3 hv1⟩
  · exact ⟨undef, .inr ⟨gval_sound S.tm (hg.trans h1), rfl⟩, fin .unit undef h2 relR_unit⟩
/-- What turns something is done when its time comes. -/
theorem Sim.turn (S : Sim P ops listed done pend ν σ a w) (hk : okReg P ops = true) {i : Nat} {o : Oper} (ho : ops[i]? = some o) (hr : readyB done i o = true) (hc : chainOp P o.op = true) (he : ∀ e ∈ edges o, Li listed e)
    {ν1 : Nu} {N1 : Nat} {H1 : Hp} {r : R} {v : Value} {w1 : World} (hrel : relR ν1 N1 r v) (hH1 : hpH ν1 N1 w1 H1) (hm : Mv ν σ.nx σ.H w ν1 N1 H1 w1)
    (hst : still P (enum 0 ops.toList) done ((masks ops.toList []).getD i 0) σ.tmps σ.H H1 = true) :
    Sim P ops (listed.setIfInBounds i true) (done.set i true) pend ν1 ⟨put σ.tmps o.dst r, H1, N1⟩ (a.put o.dst v) w1 := by
  obtain ⟨hnd, hed⟩ := (readyB_iff ho S.ds).1 hr
  have hi : i < done.length := by rw [S.ds]; exact (Array.getElem?_eq_some_iff.1 ho).1
  have hlt : i < listed.size := by rw [S.ls]; exact (Array.getElem?_eq_some_iff.1 ho).1
  have hset : ∀ j, Di (done.set i true) j ↔ j = i ∨ Di done j := fun j => getD_set_list.trans ⟨fun h => h.imp And.left id, fun h => h.imp (fun e => ⟨e, hi⟩) id⟩
  have hsetL : ∀ j, Li (listed.setIfInBounds i true) j ↔ j = i ∨ Li listed j := fun j => getD_set_arr.trans ⟨fun h => h.imp And.left id, fun h => h.imp (fun e => ⟨e, hlt⟩) id⟩
  obtain ⟨hsee, hsee2⟩ := S.sees hk ho he
  have nlag : ∀ t, o.dst = some t → ¬ lag ops pend t := by
    rintro t ht ⟨j, hj, oj, hoj, hdj⟩
    have hji : j ≠ i := fun e => hnd (e ▸ (S.pd j hj).1)
    exact hsee2 j hj hji oj hoj t hdj (by simp [names, ht])
  refine ⟨by simp [S.ls], by simp [S.ds], ?_, ?_, ?_, ?_, ?_, ?_, ?_, ?_, ?_, hH1⟩
  · intro j hj
    obtain ⟨q1, q2, oj, hoj, hcj, hp⟩ := S.pd j hj
    have hji : j ≠ i := fun e => hnd (e ▸ q1)
    refine ⟨(hset j).2 (.inr q1), fun hl => ((hsetL j).1 hl).elim hji q2, oj, hoj, hcj, ?_⟩
    have nm : ((masks ops.toList []).getD i 0).testBit j = false := by
      cases hb : ((masks ops.toList []).getD i 0).testBit j with
      | false => rfl
      | true => exact absurd (mask_in S.cl i ho he hb) q2
    refine hp.keep (fun t ht => put_no fun e => ?_) fun l ob hl hg => ?_
    · rcases (okReg_spec hk ho hoj e).2 (Ne.symm hji) ht with h | ⟨_, h | h⟩
      · exact hnd (mask_in S.cd j hoj (S.cd j oj hoj q1) h)
      · rw [hcj] at h; cases h
      · rw [nm] at h; cases h
    · have h1 := (List.all_eq_true.1 hst) (j, oj) (mem_os.2 hoj)
      have q1' : done[j]?.getD false = true := by simpa [Di, List.getD_eq_getElem?_getD] using q1
      simp only [List.getD_eq_getElem?_getD] at nm
      simp only [List.getD_eq_getElem?_getD, q1', hcj, nm, hl, Bool.not_true, Bool.false_or] at h1
      exact (hm.kp l ob hg (Nat.eq_of_beq_eq_true h1).symm).1
  · intro j hj
    rcases (hset j).1 hj with rfl | hj
    · exact .inl ((hsetL _).2 (.inl rfl))
    · exact (S.dn j hj).imp (fun h => (hsetL j).2 (.inr h)) id
  · intro j hj
    rcases (hsetL j).1 hj with rfl | hj
    · exact (hset _).2 (.inl rfl)
    · exact (hset j).2 (.inr (S.ld j hj))
  · intro j oj hoj hj e hee
    rcases (hsetL j).1 hj with rfl | hj
    · rw [ho] at hoj
      cases hoj
      exact (hsetL e).2 (.inr (he e hee))
    · exact (hsetL e).2 (.inr (S.cl j oj hoj hj e hee))
  · intro j oj hoj hj e hee
    rcases (hset j).1 hj with rfl | hj
    · rw [ho] at hoj
      cases hoj
      exact (hset e).2 (.inr (hed e hee))
    · exact (hset e).2 (.inr (S.cd j oj hoj hj e hee))
  · exact S.pe.mono fun e he => (hsetL e).2 (.inr he)
  · cases hd : o.dst <;> simp [put, Act.put, S.rl]
  · intro t
    by_cases ht : o.dst = some t
    · refine .inr ?_
      show relR ν1 N1 ((put σ.tmps o.dst r).getD t .junk) _
      by_cases htl : t < a.tmps.size
      · have : (a.put o.dst v).tmps.getD t undef = v := by simp [ht, Act.put, Array.getD_eq_getD_getElem?, Array.getElem?_setIfInBounds, htl]
        rw [this]
        rcases isp_put σ.tmps o.dst r t ht with h | h <;> rw [h]
        · exact hrel
        · exact relR_junk _
      · have hl := S.rl
        have : (put σ.tmps o.dst r).getD t .junk = .junk := by
          have : (put σ.tmps o.dst r).length = σ.tmps.length := by cases o.dst <;> simp [put]
          simp [List.getD_eq_getElem?_getD, List.getElem?_eq_none (show (put σ.tmps o.dst r).length ≤ t by omega)]
        rw [this]
        exact relR_junk _
    · have hsame : (a.put o.dst v).tmps.getD t undef = a.tmps.getD t undef := by
        cases hdd : o.dst with
        | none => rfl
        | some d =>
          have : d ≠ t := fun e => ht (by rw [hdd, e])
          simp [Act.put, Array.getD_eq_getD_getElem?, Array.getElem?_setIfInBounds, this]
      rw [hsame]
      refine (S.rt t).imp id fun hx => ?_
      show relR ν1 N1 ((put σ.tmps o.dst r).getD t .junk) _
      rw [put_no ht]
      exact relR_mono hm.ag hm.le hx
  · cases hdd : o.dst <;> simp [Act.put, S.df]
end
end Sx
