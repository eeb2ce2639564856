/- A symbolic walk: functions in whole. -/
import Derived.Test.YtcilcmbailoeaaaSxZ
set_option linter.all false
namespace Sx
open Go
section
variable {P : Program} {T : FuncId → Option Con} {inl : FuncId → List V → Hp → Nat → (R → Hp → Nat → Prop) → Prop} {Lp : Nat → Lan} {ν : Nu} {N : Nat} {w : World} {H : Hp}
/-- What a result variable yields. -/
def resV (tmps : Array Value) : ResultVar → Sem Value
  | .tmp t => pure (tmps.getD t undef)
  | .cell a t => do loadVar t (← asAddr (tmps.getD a undef))
theorem results_eq (fn : Func) (tmps : Array Value) : results fn tmps = (do
    let vs ← fn.results.mapM (resV tmps)
    pure (if h : vs.size = 1 then vs[0] else .tuple vs)) := by
  unfold results
  congr 1
theorem load_cell {t : TypeId} {x r : R} {u : Value} (hH : hpH ν N w H) (hx : relR ν N x u) (h : (load P H t x).Out r) : ∃ z, relR ν N r z ∧ (do loadVar t (← asAddr u) : Sem Value).run P w = .ok z w := by
  obtain ⟨z, h1, h2⟩ := load_sound hH hx h
  refine ⟨z, h1, ?_⟩
  have : ∃ a, u = .pointer (some a) := by
    unfold load at h
    split at h
    · exact ⟨_, hx.2⟩
    · obtain ⟨_, _, _, _, _, _, _, h⟩ := hx; exact ⟨_, h⟩
    · exact h.elim
  obtain ⟨a, rfl⟩ := this
  simpa [Instr.loadAt, Instr.sureAddr, asAddr] using h2
theorem resGo_sound {σ : St} {tmps : Array Value} (ht : relT ν N σ.tmps tmps) (hH : hpH ν N w σ.H) {fn : Func} {K : R → Prop} : ∀ {rs : List ResultVar} {acc : List V} {us : List Value}, relVs ν N acc us → resOf.go P σ rs acc K →
    ∃ vs xs, (rs.mapM (resV tmps)).run P w = .ok vs w ∧ vs.length = rs.length ∧ relVs ν N xs (us ++ vs) ∧ K (.tup xs)
  | [], acc, us, ha, h => ⟨[], acc, by simp, rfl, by simpa using ha, h⟩
  | .tmp t :: rs, acc, us, ha, h => by
    simp only [resOf.go] at h
    split at h
    · rename_i v hv
      have hx := ht.2 t
      rw [hv] at hx
      obtain ⟨vs, xs, h1, h2, h3, h4⟩ := resGo_sound ht hH (fn := fn) (relVs_app ha (ys := [v]) (vs := [tmps.getD t undef]) ⟨hx, trivial⟩) h
      exact ⟨tmps.getD t undef :: vs, xs, by simp [List.mapM_cons, resV, h1], by simp [h2], by simpa using h3, h4⟩
    · exact h.elim
  | .cell t ty :: rs, acc, us, ha, h => by
    simp only [resOf.go] at h
    obtain ⟨r, hr1, hr2⟩ := Fl.holds_out h
    obtain ⟨z, hz1, hz2⟩ := load_cell hH (ht.2 t) hr1
    split at hr2
    · rename_i v
      obtain ⟨vs, xs, h1, h2, h3, h4⟩ := resGo_sound ht hH (fn := fn) (relVs_app ha (ys := [v]) (vs := [z]) ⟨hz1, trivial⟩) hr2
      exact ⟨z :: vs, xs, by simp only [List.mapM_cons, resV, Sem.run_bind, hz2]; simp [h1], by simp [h2], by simpa using h3, h4⟩
    · exact hr2.elim
theorem resOf_sound {σ : St} {tmps : Array Value} (ht : relT ν N σ.tmps tmps) (hH : hpH ν N w σ.H) {fn : Func} {K : R → Prop} (h : resOf P fn σ K) : ∃ v r, (results fn tmps).run P w = .ok v w ∧ relR ν N r v ∧ K r := by
  rw [results_eq]
  unfold resOf at h
  split at h
  · rename_i t he
    have he : fn.results = #[.tmp t] := by rw [← Array.toList_inj]; simpa using he
    exact ⟨_, _, by simp [he, resV], ht.2 t, h⟩
  · rename_i t ty he
    have he : fn.results = #[.cell t ty] := by rw [← Array.toList_inj]; simpa using he
    obtain ⟨r, hr1, hr2⟩ := Fl.holds_out h
    obtain ⟨z, hz1, hz2⟩ := load_cell hH (ht.2 t) hr1
    have hm : ([ResultVar.cell t ty].mapM (resV tmps)).run P w = .ok [z] w := by
      have hz3 : (resV tmps (.cell t ty)).run P w = .ok z w := hz2
      rw [List.mapM_cons, Sem.run_bind, hz3]
      simp
    refine ⟨z, r, ?_, hz1, hr2⟩
    rw [he, Array.mapM_eq_mapM_toList]
    simp only [Sem.run_bind, Sem.run_map, hm]
    simp
  · rename_i rs hn1 hn2
    obtain ⟨vs, xs, h1, h2, h3, h4⟩ := resGo_sound ht hH (fn := fn) (acc := []) (us := []) trivial h
    refine ⟨.tuple vs.toArray, .tup xs, ?_, ⟨_, rfl, by simpa using h3⟩, h4⟩
    have hne : ¬ vs.length = 1 := by
      intro e
      rw [h2] at e
      obtain ⟨x, hx⟩ := List.length_eq_one_iff.1 e
      cases x with
      | tmp t => exact hn1 t hx
      | cell t ty => exact hn2 t ty hx
    simp [Array.mapM_eq_mapM_toList, h1, hne]
theorem relT_start {fn : Func} {args : List V} {vs : List Value} (h : relVs ν N args vs) : relT ν N (startT fn args) (vs.toArray ++ Array.replicate (fn.ntmps - vs.toArray.size) undef) := by
  have hl : ∀ {as : List V} {us : List Value}, relVs ν N as us → as.length = us.length ∧ ∀ i, relR ν N ((as.map R.v).getD i .junk) (us.getD i undef) := by
    intro as
    induction as with
    | nil => intro us h; cases us with
      | nil => exact ⟨rfl, fun i => by simp [List.getD_eq_getElem?_getD]; exact relR_junk _⟩
      | cons u us => exact h.elim
    | cons a as ih => intro us h; cases us with
      | nil => exact h.elim
      | cons u us =>
        obtain ⟨h1, h2⟩ := ih h.2
        refine ⟨by simp [h1], fun i => ?_⟩
        cases i with
        | zero => exact h.1
        | succ i => simpa using h2 i
  obtain ⟨h1, h2⟩ := hl h
  refine ⟨by simp [startT, h1], fun i => ?_⟩
  by_cases hi : i < vs.length
  · have := h2 i
    have hi' : i < args.length := by omega
    have e1 : (startT fn args).getD i .junk = (args.map R.v).getD i .junk := by
      simp only [startT, List.getD_eq_getElem?_getD]
      rw [List.getElem?_append_left (by simpa using hi')]
    have e2 : (vs.toArray ++ Array.replicate (fn.ntmps - vs.toArray.size) undef).getD i undef = vs.getD i undef := by
      simp only [Array.getD_eq_getD_getElem?, List.getD_eq_getElem?_getD]
      rw [Array.getElem?_append_left (by simpa using hi)]
      simp
    rw [e1, e2]
    exact this
  · have e1 : (startT fn args).getD i .junk = .junk := by
      simp only [startT, List.getD_eq_getElem?_getD]
      rw [List.getElem?_append_right (by simp; omega)]
      simp only [List.getElem?_replicate]
      split <;> rfl
    rw [e1]
    exact relR_junk _
theorem bodyK_sound (hM : P.follows .mixedOrders = true) (hT : ∀ f S, T f = some S → Good P f S) (hI : InlOK P inl) {f : FuncId} {fn : Func} (hf : P.funcs[f]? = some fn) {args : List V} {nx : Nat} {K : R → Hp → Nat → Prop} (h : bodyK P T inl Lp fn args H nx K)
    {vs : List Value} (hv : relVs ν nx args vs) (hH : hpH ν nx w H) : Calls P f vs.toArray w fun e w' => ∃ v, e = .returned v ∧ Goes ν nx H w K v w' := by
  unfold bodyK at h
  split at h
  · rename_i b hb
    refine calls_of_wp hf hb (wp_mono (vc_sound hM hT hI b (ν := ν) (w := w) (a := { tmps := vs.toArray ++ Array.replicate (fn.ntmps - vs.toArray.size) undef, defers := [] }) ⟨relT_start hv, rfl, hH⟩ h) ?_)
    have fin : ∀ (a' : Act) (w' : World) (ν' : Nu) (σ' : St), At ν' σ' a' w' → Mv ν nx H w ν' σ'.nx σ'.H w' → resOf P fn σ' (fun r => K r σ'.H σ'.nx) → a'.defers = [] ∧ ∃ v, (results fn a'.tmps).run P w' = .ok v w' ∧ (∃ v', Ending.returned v = Ending.returned v' ∧ Goes ν nx H w K v' w') := by
      intro a' w' ν' σ' hA hm hr
      obtain ⟨v, r, h1, h2, h3⟩ := resOf_sound hA.1 hA.2.2 hr
      exact ⟨hA.2.1, v, h1, v, rfl, ν', σ'.nx, σ'.H, r, h2, hA.2.2, hm, h3⟩
    rintro e a' w' ⟨e', he, ν', σ', hA, hm, hk, hq⟩
    cases e' with
    | n =>
      cases e <;> first | exact he.elim | skip
      exact fin a' w' ν' σ' hA hm hq
    | r =>
      cases e <;> first | exact he.elim | skip
      exact fin a' w' ν' σ' hA hm hq
    | x i => exact hq.elim
  · exact h.elim
/-- No function of the program is one that is answered in another way. -/
def Plain (P : Program) : Prop := ∀ (f : FuncId) (fn : Func), P.funcs[f]? = some fn → (fn.name == "runtime.NumGoroutine") = false
theorem inlN_ok (hM : P.follows .mixedOrders = true) (hP : Plain P) (hT : ∀ f S, T f = some S → Good P f S) (Lq : FuncId → Nat → Lan) : ∀ n, InlOK P (inlN P T Lq n)
  | 0 => fun f args H nx K h => h.elim
  | n + 1 => fun f args H nx K h => by
    unfold inlN at h
    split at h
    · rename_i fn hf
      refine ⟨?_, fun ν w vs hv hH => bodyK_sound hM hT (inlN_ok hM hP hT Lq n) hf h hv hH⟩
      unfold bodyK at h
      split at h
      · rename_i b hb
        exact ⟨fn, b, hf, hP f fn hf, hb⟩
      · exact h.elim
    · exact h.elim
theorem good_of_owes (hM : P.follows .mixedOrders = true) (hP : Plain P) (hT : ∀ f S, T f = some S → Good P f S) {Lq : FuncId → Nat → Lan} {n : Nat} {f : FuncId} {fn : Func} {b : Code} (hf : P.funcs[f]? = some fn) (hb : fn.body = some b) {S : Con} (h : owes P T Lq n f fn S) : Good P f S := by
  refine ⟨⟨fn, b, hf, hP f fn hf, hb⟩, fun x hx ν w args hv hH => ?_⟩
  refine Calls.mono (bodyK_sound hM hT (inlN_ok hM hP hT Lq n) hf (h x hx) hv hH) ?_
  rintro e w' ⟨v, rfl, ν', N', H', r, hr, hH', hm, hend⟩
  obtain ⟨oc, h1, h2⟩ := end_at hH hH' hm hr hend
  exact ⟨v, rfl, oc, h1, h2⟩
end
end Sx
