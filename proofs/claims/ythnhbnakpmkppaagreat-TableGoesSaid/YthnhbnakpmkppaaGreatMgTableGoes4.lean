import Derived.Deep.LoopGhost
import Derived.LoopN
import Derived.Below
import Derived.Test.YthnhbnakpmkppaaGreatMgTableGoes3
section
set_option linter.all false
namespace Sx
open Go
/-! ### which operations come before which -/
def Cl (ops : Array Oper) (S : Nat → Prop) : Prop := ∀ i o, ops[i]? = some o → S i → ∀ e ∈ edges o, S e
theorem fold_bit {acc : List Nat} {x : Nat} : ∀ {es : List Nat} {s : Nat}, (es.foldl (fun s e => s ||| (2 ^ e ||| acc.getD e 0)) s).testBit x = true → s.testBit x = true ∨ ∃ e ∈ es, x = e ∨ (acc.getD e 0).testBit x = true
  | [], s, h => .inl h
  | e :: es, s, h => by
    rcases fold_bit (es := es) h with h | ⟨e', h1, h2⟩
    · rw [Nat.testBit_or, Nat.testBit_or, Bool.or_eq_true, Bool.or_eq_true, Nat.testBit_two_pow] at h
      rcases h with h | h | h
      · exact .inl h
      · exact .inr ⟨e, by simp, .inl (by simpa using (of_decide_eq_true h).symm)⟩
      · exact .inr ⟨e, by simp, .inr h⟩
    · exact .inr ⟨e', by simp [h1], h2⟩
theorem masks_len : ∀ (os : List Oper) (acc : List Nat), (masks os acc).length = acc.length + os.length
  | [], acc => rfl
  | o :: os, acc => by simp [masks, masks_len os]; omega
theorem masks_old : ∀ (os : List Oper) (acc : List Nat) (y : Nat), y < acc.length → (masks os acc).getD y 0 = acc.getD y 0
  | [], acc, y, _ => rfl
  | o :: os, acc, y, h => by
    rw [masks, masks_old os _ y (by simp; omega)]
    simp [List.getD_eq_getElem?_getD, List.getElem?_append_left h]
theorem masks_gen : ∀ (os : List Oper) (acc : List Nat) (j : Nat) (o : Oper) (x : Nat), os[j]? = some o → ((masks os acc).getD (acc.length + j) 0).testBit x = true → ∃ e ∈ edges o, x = e ∨ (e < acc.length + j ∧ ((masks os acc).getD e 0).testBit x = true)
  | o' :: os, acc, 0, o, x, ho, h => by
    cases ho
    rw [masks, masks_old os _ _ (by simp)] at h
    simp only [Nat.add_zero, List.getD_eq_getElem?_getD, List.getElem?_append_right (Nat.le_refl _), Nat.sub_self, List.getElem?_cons_zero, Option.getD_some] at h
    rcases fold_bit h with h | ⟨e, h1, h2⟩
    · simp at h
    · refine ⟨e, h1, h2.imp id fun h2 => ?_⟩
      have hlt : e < acc.length := by
        rcases Nat.lt_or_ge e acc.length with h | h
        · exact h
        · simp [List.getElem?_eq_none h] at h2
      refine ⟨by omega, ?_⟩
      rw [masks, masks_old os _ _ (by simp; omega)]
      simpa [List.getD_eq_getElem?_getD, List.getElem?_append_left hlt] using h2
  | o' :: os, acc, j + 1, o, x, ho, h => by
    have := masks_gen os (acc ++ [(edges o').foldl (fun s e => s ||| (2 ^ e ||| acc.getD e 0)) 0]) j o x (by simpa using ho) (by simpa [masks, Nat.add_assoc, Nat.add_comm 1 j] using h)
    simpa [masks, Nat.add_assoc, Nat.add_comm 1 j] using this
  | [], _, _, _, _, ho, _ => by simp at ho
section
variable {ops : Array Oper}
theorem masks_spec {y x : Nat} (h : ((masks ops.toList []).getD y 0).testBit x = true) : ∃ o, ops[y]? = some o ∧ ∃ e ∈ edges o, x = e ∨ (e < y ∧ ((masks ops.toList []).getD e 0).testBit x = true) := by
  have hy : y < ops.size := by
    rcases Nat.lt_or_ge y ops.size with h' | h'
    · exact h'
    · have hl := masks_len ops.toList []
      rw [List.getD_eq_getElem?_getD, List.getElem?_eq_none (by rw [hl]; simpa using h')] at h
      simp at h
  obtain ⟨o, ho⟩ : ∃ o, ops[y]? = some o := ⟨_, Array.getElem?_eq_getElem hy⟩
  have := masks_gen ops.toList [] y o x (by simpa using ho) (by simpa using h)
  exact ⟨o, ho, by simpa using this⟩
theorem mask_in {S : Nat → Prop} (hS : Cl ops S) (y : Nat) {o : Oper} {x : Nat} (ho : ops[y]? = some o) (he : ∀ e ∈ edges o, S e) (h : ((masks ops.toList []).getD y 0).testBit x = true) : S x := by
  induction y using Nat.strongRecOn generalizing o with
  | _ y ih =>
    obtain ⟨o', ho', e, h1, h2⟩ := masks_spec h
    rw [ho] at ho'
    cases ho'
    rcases h2 with rfl | ⟨h2, h3⟩
    · exact he _ h1
    · obtain ⟨oe, hoe, _⟩ := masks_spec h3
      exact ih e h2 hoe (hS e oe hoe (he e h1)) h3
variable {P : Program}
theorem okReg_spec (h : okReg P ops = true) {x y : Nat} {ox oy : Oper} {d : Nat} (hx : ops[x]? = some ox) (hy : ops[y]? = some oy) (hd : ox.dst = some d) :
    (x = y → chainOp P ox.op = true ∨ d ∉ looks ops ox) ∧ (x ≠ y → d ∈ names ops oy → ((masks ops.toList []).getD y 0).testBit x = true ∨ (chainOp P ox.op = true ∧ (chainOp P oy.op = true ∨ ((masks ops.toList []).getD x 0).testBit y = true))) := by
  have h1 := (List.all_eq_true.1 h) (x, ox) (enum_mem.2 ⟨Nat.zero_le _, by simpa using hx⟩)
  simp only [hd] at h1
  have h2 := (List.all_eq_true.1 h1) (y, oy) (enum_mem.2 ⟨Nat.zero_le _, by simpa using hy⟩)
  refine ⟨fun e => ?_, fun e hn => ?_⟩
  · subst e
    simp only [show Nat.beq x x = true by simp] at h2
    simpa using h2
  · simp only [beq_no e] at h2
    simpa [hn] using h2
/-! ### guards -/
def gval (ops : Array Oper) (o : Oper) (tm : List R) : Option Bool := match o.guard with
  | none => some true
  | some (j, want) => match dstOf ops j with
    | some d => match tm.getD d .junk with
      | .v (.one (.l (.b c))) => some (c == want)
      | .tup [] => some false
      | _ => none
    | none => none
theorem set_same {tm : List R} {d : Nat} {r : R} (h : tm.getD d .junk = r) : tm.set d r = tm := by
  apply List.ext_getElem?
  intro i
  rw [List.getElem?_set]
  split
  · rename_i e
    subst e
    split
    · rename_i hl
      rw [← h, List.getD_eq_getElem?_getD, List.getElem?_eq_getElem hl]
      rfl
    · rename_i hl
      rw [List.getElem?_eq_none (by omega)]
  · rfl
theorem guardK_cases {o : Oper} {tm : List R} {yes no : List R → Prop} (h : guardK ops o.guard tm yes no) : (gval ops o tm = some true ∧ yes tm) ∨ (gval ops o tm = some false ∧ no tm) := by
  unfold guardK at h
  unfold gval
  split at h
  · rename_i hg
    rw [hg]
    exact .inl ⟨rfl, h⟩
  · rename_i j want hg
    rw [hg]
    simp only
    split at h
    · rename_i d hd
      rw [hd]
      simp only
      split at h
      · rename_i c hc
        rw [hc]
        simp only
        cases want <;> cases c <;> simp only [ifB] at h <;> rw [set_same hc] at h <;> simp [h]
      · rename_i hc
        rw [hc]
        exact .inr ⟨rfl, h⟩
      · exact h.elim
    · exact h.elim
theorem gval_congr {o : Oper} {tm tm' : List R} (h : ∀ t ∈ gtmp ops o, tm.getD t .junk = tm'.getD t .junk) : gval ops o tm = gval ops o tm' := by
  unfold gval
  cases hg : o.guard with
  | none => rfl
  | some g =>
    obtain ⟨j, want⟩ := g
    simp only
    cases hd : dstOf ops j with
    | none => rfl
    | some d => simp only; rw [h d (by simp [gtmp, hg, hd])]
theorem gval_sound {ν : Nu} {N : Nat} {o : Oper} {tm : List R} {ts : Array Value} {b : Bool} (ht : relT ν N tm ts) (h : gval ops o tm = some b) : Region.wanted o (yielded ops ts) = b := by
  unfold gval at h
  cases hg : o.guard with
  | none => rw [hg] at h; cases h; simp [Region.wanted, hg]
  | some g =>
    obtain ⟨j, want⟩ := g
    rw [hg] at h
    simp only at h
    split at h
    · rename_i d hd
      split at h
      · rename_i c hc
        have hv := relT_bool ht hc
        have hy : yielded ops ts j = some c := by
          have hd : (ops[j]?).bind (·.dst) = some d := hd
          unfold yielded
          rw [hd]
          simp [hv]
        cases h
        simp [Region.wanted, hg, hy]
      · rename_i hc
        cases h
        simp [Region.wanted, hg, relT_unit hd ht hc]
      · cases h
    · cases h
theorem ev_reads {op : Op} {tm tm' : List R} (h : ∀ t ∈ reads op, tm.getD t .junk = tm'.getD t .junk) : ∀ x ∈ op.operands, ev tm x = ev tm' x := by
  intro x hx
  cases x with
  | tmp t => exact h t (List.mem_filterMap.2 ⟨.tmp t, by simpa using hx, rfl⟩)
  | const v => rfl
  | func f => rfl
  | global g => rfl
open Classical in
noncomputable def blank (S : Nat → Prop) (tm : List R) : List R := (List.range tm.length).map fun t => if S t then .junk else tm.getD t .junk
theorem blank_len (S : Nat → Prop) (tm : List R) : (blank S tm).length = tm.length := by simp [blank]
theorem blank_no {S : Nat → Prop} {tm : List R} {t : Nat} (h : ¬ S t) : (blank S tm).getD t .junk = tm.getD t .junk := by
  by_cases hl : t < tm.length
  · simp [blank, List.getD_eq_getElem?_getD, List.getElem?_map, List.getElem?_range hl, h]
  · have : tm.length ≤ t := by omega
    simp [List.getD_eq_getElem?_getD, List.getElem?_eq_none this, List.getElem?_eq_none (show (blank S tm).length ≤ t by rw [blank_len]; exact this)]
theorem blank_yes {S : Nat → Prop} {tm : List R} {t : Nat} (h : S t) : (blank S tm).getD t .junk = .junk := by
  by_cases hl : t < tm.length
  · simp [blank, List.getD_eq_getElem?_getD, List.getElem?_map, List.getElem?_range hl, h]
  · simp [List.getD_eq_getElem?_getD, List.getElem?_eq_none (show (blank S tm).length ≤ t by rw [blank_len]; omega)]
def Isp (tm : List R) (d : Option Tmp) (r : R) : Prop := ∀ t, d = some t → tm.getD t .junk = r ∨ tm.getD t .junk = .junk
theorem isp_put (tm : List R) (d : Option Tmp) (r : R) : Isp (put tm d r) d r := by
  intro t ht
  subst ht
  by_cases hl : t < tm.length
  · exact .inl (by simp [put, List.getD_eq_getElem?_getD, List.getElem?_set, hl])
  · exact .inr (by simp [put, List.getD_eq_getElem?_getD, List.getElem?_set, hl])
theorem put_no {tm : List R} {d : Option Tmp} {r : R} {t : Nat} (h : d ≠ some t) : (put tm d r).getD t .junk = tm.getD t .junk := by
  cases d with
  | none => rfl
  | some d =>
    have : d ≠ t := fun e => h (by rw [e])
    simp [put, List.getD_eq_getElem?_getD, List.getElem?_set, this]
def Prom (P : Program) (ops : Array Oper) (σ : St) (o : Oper) : Prop := (gval ops o σ.tmps = some true ∧ ∃ r, (fl P σ.tmps σ.H o.op).Out r ∧ Isp σ.tmps o.dst r) ∨ (gval ops o σ.tmps = some false ∧ Isp σ.tmps o.dst .unit)
theorem heapOf_congr {op : Op} {tm tm' : List R} (h : ∀ x ∈ op.operands, ev tm x = ev tm' x) : heapOf tm op = heapOf tm' op := by
  cases op <;> simp only [heapOf] <;> simp only [Op.operands] at h <;> rw [h _ (by simp)]
theorem Prom.keep {σ σ' : St} {o : Oper} (h : Prom P ops σ o) (hn : ∀ t ∈ names ops o, σ'.tmps.getD t .junk = σ.tmps.getD t .junk) (hk : ∀ l ob, heapOf σ.tmps o.op = some l → hget σ.H l = some ob → hget σ'.H l = some ob) : Prom P ops σ' o := by
  have hl : ∀ t ∈ looks ops o, σ'.tmps.getD t .junk = σ.tmps.getD t .junk := fun t ht => hn t (by simp [names, ht])
  have hg : gval ops o σ'.tmps = gval ops o σ.tmps := gval_congr fun t ht => hl t (by simp [looks, ht])
  have he : ∀ x ∈ o.op.operands, ev σ'.tmps x = ev σ.tmps x := ev_reads fun t ht => hl t (by simp [looks, ht])
  have hi : ∀ {r}, Isp σ.tmps o.dst r → Isp σ'.tmps o.dst r := fun h t ht => by rw [hn t (by simp [names, ht])]; exact h t ht
  rcases h with ⟨h1, r, h2, h3⟩ | ⟨h1, h2⟩
  · exact .inl ⟨hg.trans h1, r, by rw [fl_congr he]; exact fl_heap h2 hk, hi h3⟩
  · exact .inr ⟨hg.trans h1, hi h2⟩
def PE (ops : Array Oper) : (Nat → Prop) → List Nat → Prop
  | _, [] => True
  | L, i :: rest => (∀ o, ops[i]? = some o → ∀ e ∈ edges o, L e) ∧ PE ops (fun e => L e ∨ e = i) rest
theorem PE.mono : ∀ {is : List Nat} {L L' : Nat → Prop}, PE ops L is → (∀ e, L e → L' e) → PE ops L' is
  | [], _, _, _, _ => trivial
  | _ :: _, _, _, h, hs => ⟨fun o ho e he => hs e (h.1 o ho e he), h.2.mono fun e he => he.imp (hs e) id⟩
theorem PE.snoc : ∀ {is : List Nat} {L : Nat → Prop} {y : Nat}, PE ops L is → (∀ o, ops[y]? = some o → ∀ e ∈ edges o, L e ∨ e ∈ is) → PE ops L (is ++ [y])
  | [], L, y, _, h => ⟨fun o ho e he => by simpa using h o ho e he, trivial⟩
  | i :: is, L, y, hp, h => ⟨hp.1, PE.snoc hp.2 fun o ho e he => by
      rcases h o ho e he with h | h
      · exact .inl (.inl h)
      · rcases List.mem_cons.1 h with h | h
        · exact .inl (.inr h)
        · exact .inr h⟩
theorem PE.erase : ∀ {is : List Nat} {L : Nat → Prop} {i : Nat}, PE ops L is → PE ops (fun e => L e ∨ e = i) (is.filter (· != i))
  | [], _, _, _ => trivial
  | j :: is, L, i, h => by
    by_cases hj : j = i
    · subst hj
      have := PE.erase (i := j) h.2
      simp only [List.filter_cons, bne_self_eq_false, Bool.false_eq_true, if_false]
      exact this.mono fun e he => he.elim id .inr
    · have := PE.erase (i := i) h.2
      have hb : (j != i) = true := by simpa using hj
      simp only [List.filter_cons, hb, if_true]
      exact ⟨fun o ho e he => .inl (h.1 o ho e he), this.mono fun e he => by rcases he with (h | h) | h <;> simp [h]⟩
end
end Sx

set_option linter.all false
namespace Sx
open Go
abbrev Li (l : Array Bool) (i : Nat) : Prop := l.getD i false = true
abbrev Di (d : List Bool) (i : Nat) : Prop := d.getD i false = true
def lag (ops : Array Oper) (pend : List Nat) (t : Nat) : Prop := ∃ i ∈ pend, ∃ o, ops[i]? = some o ∧ o.dst = some t
structure Sim (P : Program) (ops : Array Oper) (listed : Array Bool) (done : List Bool) (pend : List Nat) (ν : Nu) (σ : St) (a : Act) (w : World) : Prop where
  ls : listed.size = ops.size
  ds : done.length = ops.size
  pd : ∀ i ∈ pend, Di done i ∧ ¬ Li listed i ∧ ∃ o, ops[i]? = some o ∧ chainOp P o.op = false ∧ Prom P ops σ o
  dn : ∀ i, Di done i → Li listed i ∨ i ∈ pend
  ld : ∀ i, Li listed i → Di done i
  cl : Cl ops (Li listed)
  cd : Cl ops (Di done)
  pe : PE ops (Li listed) pend
  rl : σ.tmps.length = a.tmps.size
  rt : ∀ t, lag ops pend t ∨ relR ν σ.nx (σ.tmps.getD t .junk) (a.tmps.getD t undef)
  df : a.defers = []
  hH : hpH ν σ.nx w σ.H
theorem getD_set_list {d : List Bool} {i j : Nat} : (d.set i true).getD j false = true ↔ (j = i ∧ i < d.length) ∨ d.getD j false = true := by
  by_cases h : j = i
  · subst h
    by_cases hl : j < d.length
    · simp [List.getD_eq_getElem?_getD, List.getElem?_set, hl]
    · simp [List.getD_eq_getElem?_getD, List.getElem?_set, hl]
  · simp [List.getD_eq_getElem?_getD, List.getElem?_set, Ne.symm h, h]
theorem getD_set_arr {d : Array Bool} {i j : Nat} : (d.setIfInBounds i true).getD j false = true ↔ (j = i ∧ i < d.size) ∨ d.getD j false = true := by
  by_cases h : j = i
  · subst h
    by_cases hl : j < d.size
    · simp [Array.getD_eq_getD_getElem?, Array.getElem?_setIfInBounds, hl]
    · simp [Array.getD_eq_getD_getElem?, Array.getElem?_setIfInBounds, hl]
  · simp [Array.getD_eq_getD_getElem?, Array.getElem?_setIfInBounds, Ne.symm h, h]
section
variable {P : Program} {T : FuncId → Option Con} {inl : FuncId → List V → Hp → Nat → (R → Hp → Nat → Prop) → Prop} {ops : Array Oper} {listed : Array Bool} {done : List Bool} {pend : List Nat} {ν : Nu} {σ : St} {a : Act} {w : World}
theorem readyB_iff {i : Nat} {o : Oper} (ho : ops[i]? = some o) (hd : done.length = ops.size) : readyB done i o = true ↔ ¬ Di done i ∧ ∀ e ∈ edges o, Di done e := by
  have hi : i < done.length := by rw [hd]; exact (Array.getElem?_eq_some_iff.1 ho).1
  simp [readyB, Di, List.getD_eq_getElem?_getD, List.getElem?_eq_getElem hi]
theorem firstF_cons (x : Nat × Oper) (xs : List (Nat × Oper)) : firstF P done (x :: xs) = if readyB done x.1 x.2 && !chainOp P x.2.op then some x else firstF P done xs := by
  show (match readyB done x.1 x.2 && !chainOp P x.2.op with | true => some x | false => firstF P done xs) = _
  generalize (readyB done x.1 x.2 && !chainOp P x.2.op) = b
  cases b <;> rfl
theorem firstF_some {x : Nat × Oper} (os : List (Nat × Oper)) : firstF P done os = some x → x ∈ os ∧ readyB done x.1 x.2 = true ∧ chainOp P x.2.op = false := by
  induction os with
  | nil => intro h; cases h
  | cons y os ih =>
    intro h
    rw [firstF_cons] at h
    generalize hr : readyB done y.1 y.2 = b at h
    generalize hc : chainOp P y.2.op = c at h
    cases b <;> cases c
    · exact ⟨List.mem_cons_of_mem _ (ih h).1, (ih h).2⟩
    · exact ⟨List.mem_cons_of_mem _ (ih h).1, (ih h).2⟩
    · have h := Option.some.inj h
      subst h
      exact ⟨List.mem_cons_self, hr, hc⟩
    · exact ⟨List.mem_cons_of_mem _ (ih h).1, (ih h).2⟩
theorem firstF_none (os : List (Nat × Oper)) : firstF P done os = none → ∀ x ∈ os, readyB done x.1 x.2 = true → chainOp P x.2.op = true := by
  induction os with
  | nil => intro _ x hx; cases hx
  | cons y os ih =>
    intro h x hx hr
    rw [firstF_cons] at h
    rcases List.mem_cons.1 hx with e | hx
    · subst e
      rw [hr] at h
      generalize chainOp P x.2.op = c at h ⊢
      cases c
      · cases h
      · rfl
    · refine ih ?_ x hx hr
      generalize (readyB done y.1 y.2 && !chainOp P y.2.op) = b at h
      cases b
      · exact h
      · cases h
theorem mem_os {i : Nat} {o : Oper} : (i, o) ∈ enum 0 ops.toList ↔ ops[i]? = some o := by rw [enum_mem]; simp
theorem Sim.tm (S : Sim P ops listed done pend ν σ a w) : relT ν σ.nx (blank (lag ops pend) σ.tmps) a.tmps := by
  refine ⟨by rw [blank_len, S.rl], fun t => ?_⟩
  by_cases h : lag ops pend t
  · rw [blank_yes h]; exact relR_junk _
  · rw [blank_no h]; exact (S.rt t).resolve_left h
theorem Sim.sees (S : Sim P ops listed done pend ν σ a w) (hk : okReg P ops = true) {i : Nat} {o : Oper} (ho : ops[i]? = some o) (he : ∀ e ∈ edges o, Li listed e) : (∀ t ∈ looks ops o, ¬ lag ops pend t) ∧ (∀ j ∈ pend, j ≠ i → ∀ oj, ops[j]? = some oj → ∀ t, oj.dst = some t → t ∉ names ops o) := by
  have key : ∀ j ∈ pend, j ≠ i → ∀ oj, ops[j]? = some oj → ∀ t, oj.dst = some t → t ∉ names ops o := by
    intro j hj hne oj hoj t ht hn
    obtain ⟨_, h2, o', ho', hc, _⟩ := S.pd j hj
    rw [hoj] at ho'
    cases ho'
    rcases (okReg_spec hk hoj ho ht).2 hne hn with h | ⟨h, _⟩
    · exact h2 (mask_in S.cl i ho he h)
    · rw [hc] at h; cases h
  refine ⟨fun t ht => ?_, key⟩
  rintro ⟨j, hj, oj, hoj, hd⟩
  by_cases hne : j = i
  · subst hne
    rw [ho] at hoj
    cases hoj
    obtain ⟨_, _, o', ho', hc, _⟩ := S.pd j hj
    rw [ho] at ho'
    cases ho'
    rcases (okReg_spec hk ho ho hd).1 rfl with h | h
    · rw [hc] at h; cases h
    · exact h ht
  · exact key j hj hne oj hoj t hd (by simp [names, ht])
theorem Sim.float (S : Sim P ops listed done pend ν σ a w) (hk : okReg P ops = true) {i : Nat} {o : Oper} (ho : ops[i]? = some o) (hr : readyB done i o = true) (hc : chainOp P o.op = false) {r : R}
    (h : (gval ops o σ.tmps = some true ∧ (fl P σ.tmps σ.H o.op).Out r) ∨ (gval ops o σ.tmps = some false ∧ r = .unit)) : Sim P ops listed (done.set i true) (pend ++ [i]) ν ⟨put σ.tmps o.dst r, σ.H, σ.nx⟩ a w := by
  obtain ⟨hnd, hed⟩ := (readyB_iff ho S.ds).1 hr
  have hi : i < done.length := by rw [S.ds]; exact (Array.getElem?_eq_some_iff.1 ho).1
  have hset : ∀ j, Di (done.set i true) j ↔ j = i ∨ Di done j := fun j => getD_set_list.trans ⟨fun h => h.imp And.left id, fun h => h.imp (fun e => ⟨e, hi⟩) id⟩
  have hself : ∀ t, o.dst = some t → t ∉ looks ops o := fun t ht => ((okReg_spec hk ho ho ht).1 rfl).resolve_left (by simp [hc])
  have hlk : ∀ t ∈ looks ops o, (put σ.tmps o.dst r).getD t .junk = σ.tmps.getD t .junk := fun t ht => put_no fun e => hself t e ht
  refine ⟨S.ls, by simp [S.ds], ?_, ?_, fun j hj => (hset j).2 (.inr (S.ld j hj)), S.cl, ?_, ?_, ?_, ?_, S.df, S.hH⟩
  · intro j hj
    rcases List.mem_append.1 hj with hj | hj
    · obtain ⟨h1, h2, oj, hoj, hcj, hp⟩ := S.pd j hj
      refine ⟨(hset j).2 (.inr h1), h2, oj, hoj, hcj, ?_⟩
      have hne : i ≠ j := fun e => hnd (e ▸ h1)
      refine hp.keep (fun t ht => put_no fun e => ?_) fun l ob _ hl => hl
      rcases (okReg_spec hk ho hoj e).2 hne ht with h | ⟨h, _⟩
      · exact hnd (mask_in S.cd j hoj (S.cd j oj hoj h1) h)
      · rw [hc] at h; cases h
    · simp only [List.mem_singleton] at hj
      subst hj
      refine ⟨(hset _).2 (.inl rfl), fun hl => hnd (S.ld _ hl), o, ho, hc, ?_⟩
      have hg : gval ops o (put σ.tmps o.dst r) = gval ops o σ.tmps := gval_congr fun t ht => hlk t (by simp [looks, ht])
      have hf : fl P (put σ.tmps o.dst r) σ.H o.op = fl P σ.tmps σ.H o.op := fl_congr (ev_reads fun t ht => hlk t (by simp [looks, ht]))
      rcases h with ⟨h1, h2⟩ | ⟨h1, rfl⟩
      · exact .inl ⟨hg.trans h1, r, by rw [hf]; exact h2, isp_put _ _ _⟩
      · exact .inr ⟨hg.trans h1, isp_put _ _ _⟩
  · intro j hj
    rcases (hset j).1 hj with rfl | hj
    · exact .inr (by simp)
    · exact (S.dn j hj).imp id fun h => by simp [h]
  · intro j oj hoj hj e he
    rcases (hset j).1 hj with rfl | hj
    · rw [ho] at hoj
      cases hoj
      exact (hset e).2 (.inr (hed e he))
    · exact (hset e).2 (.inr (S.cd j oj hoj hj e he))
  · refine S.pe.snoc fun o' ho' e he => ?_
    rw [ho] at ho'
    cases ho'
    exact S.dn e (hed e he)
  · cases hd : o.dst <;> simp [put, S.rl]
  · intro t
    by_cases ht : o.dst = some t
    · exact .inl ⟨i, by simp, o, ho, ht⟩
    · rcases S.rt t with ⟨j, hj, x⟩ | hx
      · exact .inl ⟨j, by simp [hj], x⟩
      · refine .inr ?_
        show relR ν σ.nx ((put σ.tmps o.dst r).getD t .junk) _
        rw [put_no ht]
        exact hx
theorem Sim.ahead {asq : List Nat} (has : ∀ (i : Nat) (o : Oper), ops[i]? = some o → ∀ t ∈ tch ops o, t ∈ asq) (hk : okReg P ops = true) {K : St → Prop} : ∀ {n : Nat} {done : List Bool} {pend : List Nat} {σ : St}, Sim P ops listed done pend ν σ a w → regA P T inl ops (enum 0 ops.toList) (masks ops.toList []) n done σ K →
    ∃ n' done' pend' σ', Sim P ops listed done' pend' ν σ' a w ∧ regA P T inl ops (enum 0 ops.toList) (masks ops.toList []) n' done' σ' K ∧ Kp asq σ.tmps σ'.tmps ∧ σ'.H = σ.H ∧ σ'.nx = σ.nx ∧ firstF P done' (enum 0 ops.toList) = none
  | 0, done, pend, σ, S, h => by
    refine ⟨0, done, pend, σ, S, h, Kp.refl _ _, rfl, rfl, ?_⟩
    unfold regA at h
    split at h
    · rename_i hd
      cases hf : firstF P done (enum 0 ops.toList) with
      | none => rfl
      | some x =>
        obtain ⟨h1, h2, _⟩ := firstF_some _ hf
        have ho : ops[x.1]? = some x.2 := mem_os.1 h1
        have hi : x.1 < done.length := by rw [S.ds]; exact (Array.getElem?_eq_some_iff.1 ho).1
        have := ((readyB_iff ho S.ds).1 h2).1
        refine absurd ?_ this
        have := (List.all_eq_true.1 hd) _ (List.getElem_mem hi)
        simpa [Di, List.getD_eq_getElem?_getD, List.getElem?_eq_getElem hi] using this
    · exact h.elim
  | n + 1, done, pend, σ, S, h => by
    cases hf : firstF P done (enum 0 ops.toList) with
    | none => exact ⟨n + 1, done, pend, σ, S, h, Kp.refl _ _, rfl, rfl, hf⟩
    | some x =>
      obtain ⟨h1, h2, h3⟩ := firstF_some _ hf
      have ho : ops[x.1]? = some x.2 := mem_os.1 h1
      unfold regA at h
      rw [hf] at h
      simp only at h
      have hao : ∀ t, x.2.dst = some t → t ∈ asq := fun t ht => has x.1 x.2 ho t (by simp [tch, ht])
      rcases guardK_cases h with ⟨hg, hy⟩ | ⟨hg, hy⟩
      · obtain ⟨r, hr1, hr2⟩ := Fl.holds_out hy
        obtain ⟨n', done', pend', σ', q1, q2, q3, q4, q5, q6⟩ := Sim.ahead has hk (S.float hk ho h2 h3 (.inl ⟨hg, hr1⟩)) hr2
        exact ⟨n', done', pend', σ', q1, q2, (Kp.put asq _ r hao).trans q3, q4, q5, q6⟩
      · obtain ⟨n', done', pend', σ', q1, q2, q3, q4, q5, q6⟩ := Sim.ahead has hk (S.float hk ho h2 h3 (.inr ⟨hg, rfl⟩)) hy
        exact ⟨n', done', pend', σ', q1, q2, (Kp.put asq _ _ hao).trans q3, q4, q5, q6⟩
theorem Sim.catch (S : Sim P ops listed done pend ν σ a w) (hk : okReg P ops = true) {i : Nat} {o : Oper} (ho : ops[i]? = some o) (hi : i ∈ pend) (he : ∀ e ∈ edges o, Li listed e) :
    ∃ v, ((Region.wanted o (yielded ops a.tmps) = true ∧ (execOp a.eval o).run P w = .ok (.value v) w) ∨ (Region.wanted o (yielded ops a.tmps) = false ∧ v = undef)) ∧
      Sim P ops (listed.setIfInBounds i true) done (pend.filter (· != i)) ν σ (a.put o.dst v) w := by
  obtain ⟨hd, hnl, o', ho', hc, hp⟩ := S.pd i hi
  rw [ho] at ho'
  cases ho'
  obtain ⟨hsee, hsee2⟩ := S.sees hk ho he
  have hlt : i < listed.size := by rw [S.ls]; exact (Array.getElem?_eq_some_iff.1 ho).1
  have hset : ∀ j, Li (listed.setIfInBounds i true) j ↔ j = i ∨ Li listed j := fun j => getD_set_arr.trans ⟨fun h => h.imp And.left id, fun h => h.imp (fun e => ⟨e, hlt⟩) id⟩
  have hg : gval ops o (blank (lag ops pend) σ.tmps) = gval ops o σ.tmps := gval_congr fun t ht => blank_no (hsee t (by simp [looks, ht]))
  have hf : fl P (blank (lag ops pend) σ.tmps) σ.H o.op = fl P σ.tmps σ.H o.op := fl_congr (ev_reads fun t ht => blank_no (hsee t (by simp [looks, ht])))
  have fin : ∀ r v, Isp σ.tmps o.dst r → relR ν σ.nx r v → Sim P ops (listed.setIfInBounds i true) done (pend.filter (· != i)) ν σ (a.put o.dst v) w := by
    intro r v hisp hrel
    refine ⟨by simp [S.ls], S.ds, ?_, ?_, ?_, ?_, S.cd, ?_, ?_, ?_, ?_, S.hH⟩
    · intro j hj
      obtain ⟨hj1, hj2⟩ := List.mem_filter.1 hj
      obtain ⟨q1, q2, q3⟩ := S.pd j hj1
      refine ⟨q1, fun hl => ?_, q3⟩
      rcases (hset j).1 hl with h | h
      · simp [h] at hj2
      · exact q2 h
    · intro j hj
      by_cases hji : j = i
      · exact .inl ((hset j).2 (.inl hji))
      · exact (S.dn j hj).imp (fun h => (hset j).2 (.inr h)) fun h => List.mem_filter.2 ⟨h, by simpa using hji⟩
    · intro j hj
      rcases (hset j).1 hj with rfl | hj
      · exact hd
      · exact S.ld j hj
    · intro j oj hoj hj e hee
      rcases (hset j).1 hj with rfl | hj
      · rw [ho] at hoj
        cases hoj
        exact (hset e).2 (.inr (he e hee))
      · exact (hset e).2 (.inr (S.cl j oj hoj hj e hee))
    · exact S.pe.erase.mono fun e he => (hset e).2 (he.elim .inr .inl)
    · cases hdd : o.dst <;> simp [Act.put, S.rl]
    · intro t
      by_cases ht : o.dst = some t
      · refine .inr ?_
        by_cases htl : t < a.tmps.size
        · have : (a.put o.dst v).tmps.getD t undef = v := by simp [ht, Act.put, Array.getD_eq_getD_getElem?, Array.getElem?_setIfInBounds, htl]
          rw [this]
          rcases hisp t ht with h | h <;> rw [h]
          · exact hrel
          · exact relR_junk _
        · have : σ.tmps.getD t .junk = .junk := by
            have hl := S.rl
            simp [List.getD_eq_getElem?_getD, List.getElem?_eq_none (show σ.tmps.length ≤ t by omega)]
          rw [this]
          exact relR_junk _
      · have hsame : (a.put o.dst v).tmps.getD t undef = a.tmps.getD t undef := by
          cases hdd : o.dst with
          | none => rfl
          | some d =>
            have : d ≠ t := fun e => ht (by rw [hdd, e])
            simp [Act.put, Array.getD_eq_getD_getElem?, Array.getElem?_setIfInBounds, this]
        rw [hsame]
        rcases S.rt t with ⟨j, hj, oj, hoj, hdj⟩ | hx
        · refine .inl ⟨j, List.mem_filter.2 ⟨hj, ?_⟩, oj, hoj, hdj⟩
          have : j ≠ i := fun e => by
            subst e
            rw [ho] at hoj
            cases hoj
            exact ht hdj
          simpa using this
        · exact .inr hx
    · cases hdd : o.dst <;> simp [Act.put, S.df]
  rcases hp with ⟨h1, r, h2, h3⟩ | ⟨h1, h2⟩
  · obtain ⟨v, hv1, hv2⟩ := fl_sound (o := o) S.tm S.hH (by rw [hf]; exact h2)
    exact ⟨v, .inl ⟨gval_sound S.tm (hg.trans h1), hv2⟩, fin r v h3 hv1⟩
  · exact ⟨undef, .inr ⟨gval_sound S.tm (hg.trans h1), rfl⟩, fin .unit undef h2 relR_unit⟩
theorem Sim.turn (S : Sim P ops listed done pend ν σ a w) (hk : okReg P ops = true) {i : Nat} {o : Oper} (ho : ops[i]? = some o) (hr : readyB done i o = true) (hc : chainOp P o.op = true) (he : ∀ e ∈ edges o, Li listed e)
    {ν1 : Nu} {N1 : Nat} {H1 : Hp} {r : R} {v : Value} {w1 : World} (hrel : relR ν1 N1 r v) (hH1 : hpH ν1 N1 w1 H1) (hm : Mv ν σ.nx σ.H w ν1 N1 H1 w1)
    (hst : still P (enum 0 ops.toList) done ((masks ops.toList []).getD i 0) σ.tmps σ.H H1 = true) :
    Sim P ops (listed.setIfInBounds i true) (done.set i true) pend ν1 ⟨put σ.tmps o.dst r, H1, N1⟩ (a.put o.dst v) w1 := by
  obtain ⟨hnd, hed⟩ := (readyB_iff ho S.ds).1 hr
  have hi : i < done.length := by rw [S.ds]; exact (Array.getElem?_eq_some_iff.1 ho).1
  have hlt : i < listed.size := by rw [S.ls]; exact (Array.getElem?_eq_some_iff.1 ho).1
  have hset : ∀ j, Di (done.set i true) j ↔ j = i ∨ Di done j := fun j => getD_set_list.trans ⟨fun h => h.imp And.left id, fun h => h.imp (fun e => ⟨e, hi⟩) id⟩
  have hsetL : ∀ j, Li (listed.setIfInBounds i true) j ↔ j = i ∨ Li listed j := fun j => getD_set_arr.trans ⟨fun h => h.imp And.left id, fun h => h.imp (fun e => ⟨e, hlt⟩) id⟩
  obtain ⟨hsee, hsee2⟩ := S.sees hk ho he
  have nlag : ∀ t, o.dst = some t → ¬ lag ops pend t := by
    rintro t ht ⟨j, hj, oj, hoj, hdj⟩
    have hji : j ≠ i := fun e => hnd (e ▸ (S.pd j hj).1)
    exact hsee2 j hj hji oj hoj t hdj (by simp [names, ht])
  refine ⟨by simp [S.ls], by simp [S.ds], ?_, ?_, ?_, ?_, ?_, ?_, ?_, ?_, ?_, hH1⟩
  · intro j hj
    obtain ⟨q1, q2, oj, hoj, hcj, hp⟩ := S.pd j hj
    have hji : j ≠ i := fun e => hnd (e ▸ q1)
    refine ⟨(hset j).2 (.inr q1), fun hl => ((hsetL j).1 hl).elim hji q2, oj, hoj, hcj, ?_⟩
    have nm : ((masks ops.toList []).getD i 0).testBit j = false := by
      cases hb : ((masks ops.toList []).getD i 0).testBit j with
      | false => rfl
      | true => exact absurd (mask_in S.cl i ho he hb) q2
    refine hp.keep (fun t ht => put_no fun e => ?_) fun l ob hl hg => ?_
    · rcases (okReg_spec hk ho hoj e).2 (Ne.symm hji) ht with h | ⟨_, h | h⟩
      · exact hnd (mask_in S.cd j hoj (S.cd j oj hoj q1) h)
      · rw [hcj] at h; cases h
      · rw [nm] at h; cases h
    · have h1 := (List.all_eq_true.1 hst) (j, oj) (mem_os.2 hoj)
      have q1' : done[j]?.getD false = true := by simpa [Di, List.getD_eq_getElem?_getD] using q1
      simp only [List.getD_eq_getElem?_getD] at nm
      simp only [List.getD_eq_getElem?_getD, q1', hcj, nm, hl, Bool.not_true, Bool.false_or] at h1
      exact (hm.kp l ob hg (Nat.eq_of_beq_eq_true h1).symm).1
  · intro j hj
    rcases (hset j).1 hj with rfl | hj
    · exact .inl ((hsetL _).2 (.inl rfl))
    · exact (S.dn j hj).imp (fun h => (hsetL j).2 (.inr h)) id
  · intro j hj
    rcases (hsetL j).1 hj with rfl | hj
    · exact (hset _).2 (.inl rfl)
    · exact (hset j).2 (.inr (S.ld j hj))
  · intro j oj hoj hj e hee
    rcases (hsetL j).1 hj with rfl | hj
    · rw [ho] at hoj
      cases hoj
      exact (hsetL e).2 (.inr (he e hee))
    · exact (hsetL e).2 (.inr (S.cl j oj hoj hj e hee))
  · intro j oj hoj hj e hee
    rcases (hset j).1 hj with rfl | hj
    · rw [ho] at hoj
      cases hoj
      exact (hset e).2 (.inr (hed e hee))
    · exact (hset e).2 (.inr (S.cd j oj hoj hj e hee))
  · exact S.pe.mono fun e he => (hsetL e).2 (.inr he)
  · cases hd : o.dst <;> simp [put, Act.put, S.rl]
  · intro t
    by_cases ht : o.dst = some t
    · refine .inr ?_
      show relR ν1 N1 ((put σ.tmps o.dst r).getD t .junk) _
      by_cases htl : t < a.tmps.size
      · have : (a.put o.dst v).tmps.getD t undef = v := by simp [ht, Act.put, Array.getD_eq_getD_getElem?, Array.getElem?_setIfInBounds, htl]
        rw [this]
        rcases isp_put σ.tmps o.dst r t ht with h | h <;> rw [h]
        · exact hrel
        · exact relR_junk _
      · have hl := S.rl
        have : (put σ.tmps o.dst r).getD t .junk = .junk := by
          have : (put σ.tmps o.dst r).length = σ.tmps.length := by cases o.dst <;> simp [put]
          simp [List.getD_eq_getElem?_getD, List.getElem?_eq_none (show (put σ.tmps o.dst r).length ≤ t by omega)]
        rw [this]
        exact relR_junk _
    · have hsame : (a.put o.dst v).tmps.getD t undef = a.tmps.getD t undef := by
        cases hdd : o.dst with
        | none => rfl
        | some d =>
          have : d ≠ t := fun e => ht (by rw [hdd, e])
          simp [Act.put, Array.getD_eq_getD_getElem?, Array.getElem?_setIfInBounds, this]
      rw [hsame]
      refine (S.rt t).imp id fun hx => ?_
      show relR ν1 N1 ((put σ.tmps o.dst r).getD t .junk) _
      rw [put_no ht]
      exact relR_mono hm.ag hm.le hx
  · cases hdd : o.dst <;> simp [Act.put, S.df]
end
end Sx

set_option linter.all false
namespace Sx
open Go
section
variable {P : Program} {T : FuncId → Option Con} {inl : FuncId → List V → Hp → Nat → (R → Hp → Nat → Prop) → Prop} {ops : Array Oper}
theorem conj_mem : ∀ {ps : List Prop}, conj ps → ∀ p ∈ ps, p
  | [], _, _, h => by simp at h
  | [p], h, q, hq => by simp only [List.mem_singleton] at hq; rw [hq]; exact h
  | p :: p' :: ps, h, q, hq => by
    rcases List.mem_cons.1 hq with e | hq
    · rw [e]; exact h.1
    · exact conj_mem h.2 q hq
theorem edges_on {o : Oper} {S : Nat → Prop} : (∀ e ∈ o.after, Region.binds .any e = true → S e.on) ↔ ∀ e ∈ edges o, S e := by
  simp only [edges, List.mem_map, List.mem_filter]
  constructor
  · rintro h e ⟨x, ⟨h1, h2⟩, rfl⟩
    exact h x (by simpa using h1) h2
  · intro h x hx hb
    exact h _ ⟨x, ⟨by simpa using hx, hb⟩, rfl⟩
theorem ready_iff {listed : Array Bool} {i : Nat} (hs : listed.size = ops.size) : i ∈ Region.ready .any ops listed ↔ ¬ Li listed i ∧ ∃ o, ops[i]? = some o ∧ ∀ e ∈ edges o, Li listed e := by
  rw [mem_ready]
  constructor
  · rintro ⟨h1, o, h2, h3⟩
    have hi : i < listed.size := by rw [hs]; exact (Array.getElem?_eq_some_iff.1 h2).1
    exact ⟨by simpa [Li, Array.getD_eq_getD_getElem?, hi] using h1, o, h2, edges_on.1 h3⟩
  · rintro ⟨h1, o, h2, h3⟩
    have hi : i < listed.size := by rw [hs]; exact (Array.getElem?_eq_some_iff.1 h2).1
    exact ⟨by simpa [Li, Array.getD_eq_getD_getElem?, hi] using h1, o, h2, edges_on.2 h3⟩
def left (listed : Array Bool) : Nat := listed.toList.countP fun b => !b
theorem left_set {listed : Array Bool} {i : Nat} (hi : i < listed.size) (h : ¬ Li listed i) : left (listed.setIfInBounds i true) + 1 = left listed := by
  have hb : listed[i] = false := by simpa [Li, Array.getD_eq_getD_getElem?, hi] using h
  have hi' : i < listed.toList.length := by simpa using hi
  have hmem : listed.toList[i] = false := by simpa using hb
  have hpos : 0 < listed.toList.countP fun b => !b := List.countP_pos_iff.2 ⟨listed.toList[i], List.getElem_mem hi', by rw [hmem]; rfl⟩
  simp only [left, Array.toList_setIfInBounds, List.countP_set hi', hmem, Bool.not_false, Bool.not_true, if_true, Bool.false_eq_true, if_false]
  omega
theorem left_zero {listed : Array Bool} (h : left listed = 0) : ∀ i, i < listed.size → Li listed i := by
  intro i hi
  have := List.countP_eq_zero.1 h listed[i] (by simp)
  simpa [Li, Array.getD_eq_getD_getElem?, hi] using this
theorem left_pos {listed : Array Bool} (h : 0 < left listed) : ∃ i, i < listed.size ∧ ¬ Li listed i := by
  obtain ⟨b, hb, hf⟩ := List.countP_pos_iff.1 h
  obtain ⟨i, hi, rfl⟩ := List.getElem_of_mem hb
  have hi' : i < listed.size := by simpa using hi
  exact ⟨i, hi', by simpa [Li, Array.getD_eq_getD_getElem?, hi'] using hf⟩
variable {listed : Array Bool} {done : List Bool} {pend : List Nat} {ν : Nu} {σ : St} {a : Act} {w : World} {K : St → Prop}
theorem Sim.some_ready (S : Sim P ops listed done pend ν σ a w) {n : Nat} (h : regA P T inl ops (enum 0 ops.toList) (masks ops.toList []) n done σ K) (hl : 0 < left listed) : ∃ i, i ∈ Region.ready .any ops listed := by
  cases pend with
  | cons p rest =>
    obtain ⟨_, q2, o, ho, _⟩ := S.pd p (by simp)
    exact ⟨p, (ready_iff S.ls).2 ⟨q2, o, ho, S.pe.1 o ho⟩⟩
  | nil =>
    have hDL : ∀ i, Di done i → Li listed i := fun i hi => (S.dn i hi).resolve_right (by simp)
    obtain ⟨i, hi, hni⟩ := left_pos hl
    have hnd : ¬ Di done i := fun hd => hni (hDL i hd)
    have rdy : ∀ x : Nat × Oper, x ∈ enum 0 ops.toList → readyB done x.1 x.2 = true → ∃ i, i ∈ Region.ready .any ops listed := by
      intro x hx hr
      have ho := mem_os.1 hx
      obtain ⟨r1, r2⟩ := (readyB_iff ho S.ds).1 hr
      exact ⟨x.1, (ready_iff S.ls).2 ⟨fun hl => r1 (S.ld _ hl), x.2, ho, fun e he => hDL e (r2 e he)⟩⟩
    cases n with
    | zero =>
      unfold regA at h
      split at h
      · rename_i hd
        have hi' : i < done.length := by rw [S.ds, ← S.ls]; exact hi
        have := (List.all_eq_true.1 hd) _ (List.getElem_mem hi')
        exact absurd (by simpa [Di, List.getD_eq_getElem?_getD, List.getElem?_eq_getElem hi'] using this) hnd
      · exact h.elim
    | succ n =>
      cases hf : firstF P done (enum 0 ops.toList) with
      | some x =>
        obtain ⟨h1, h2, _⟩ := firstF_some _ hf
        exact rdy x h1 h2
      | none =>
        unfold regA at h
        rw [hf] at h
        simp only at h
        split at h
        · exact h.elim
        · rename_i hxs
          obtain ⟨y, hm⟩ := List.exists_mem_of_ne_nil _ hxs
          obtain ⟨h1, h2⟩ := List.mem_filter.1 hm
          exact rdy y h1 h2
theorem regA_sound (hT : ∀ f S, T f = some S → Good P f S) (hI : InlOK P inl) {asq : List Nat} (has : ∀ (i : Nat) (o : Oper), ops[i]? = some o → ∀ t ∈ tch ops o, t ∈ asq) (hk : okReg P ops = true) {Q : Exit → Act → World → Prop} :
    ∀ (m : Nat) {listed : Array Bool} {done : List Bool} {pend : List Nat} {ν : Nu} {σ : St} {a : Act} {w : World} {K : St → Prop} {n : Nat}, left listed = m → Sim P ops listed done pend ν σ a w → regA P T inl ops (enum 0 ops.toList) (masks ops.toList []) n done σ K →
    (∀ a' w', Lands asq ν σ w K a' w' → Q .normal a' w') → wpAny P .any ops Q m listed a w
  | 0, listed, done, pend, ν, σ, a, w, K, n, hl, S, h, hQ => by
    have hall := left_zero hl
    have hlt : ∀ (i : Nat) (o : Oper), ops[i]? = some o → Li listed i := fun i o ho => hall i (by rw [S.ls]; exact (Array.getElem?_eq_some_iff.1 ho).1)
    have hr : Region.ready .any ops listed = [] := by
      apply List.eq_nil_iff_forall_not_mem.2
      intro i hi
      obtain ⟨h1, o, h2, _⟩ := (ready_iff S.ls).1 hi
      exact h1 (hlt i o h2)
    refine ⟨hr, hQ a w ?_⟩
    have hp : pend = [] := by
      cases pend with
      | nil => rfl
      | cons p rest =>
        obtain ⟨_, q2, o, ho, _⟩ := S.pd p (by simp)
        exact absurd (hlt p o ho) q2
    subst hp
    have hK : K σ := by
      have hnot : ∀ x : Nat × Oper, x ∈ enum 0 ops.toList → readyB done x.1 x.2 = true → False := by
        intro x hx hr
        have ho := mem_os.1 hx
        exact ((readyB_iff ho S.ds).1 hr).1 (S.ld _ (hlt _ _ ho))
      cases n with
      | zero =>
        unfold regA at h
        split at h
        · exact h
        · exact h.elim
      | succ n =>
        cases hf : firstF P done (enum 0 ops.toList) with
        | some x => exact (hnot x (firstF_some _ hf).1 (firstF_some _ hf).2.1).elim
        | none =>
          unfold regA at h
          rw [hf] at h
          simp only at h
          split at h
          · exact h.elim
          · rename_i hxs
            obtain ⟨y, hm⟩ := List.exists_mem_of_ne_nil _ hxs
            obtain ⟨h1, h2⟩ := List.mem_filter.1 hm
            exact (hnot y h1 h2).elim
    refine ⟨ν, σ, ⟨⟨S.rl, fun t => (S.rt t).resolve_left fun ⟨i, hi, _⟩ => by simp at hi⟩, S.df, S.hH⟩, Mv.stay _ _ _ _ _ (Nat.le_refl _), Kp.refl _ _, hK⟩
  | m + 1, listed, done, pend, ν, σ, a, w, K, n, hl, S, h, hQ => by
    refine ⟨fun hr => ?_, fun i hi => ?_⟩
    · obtain ⟨i, hi⟩ := S.some_ready h (by omega)
      rw [hr] at hi
      simp at hi
    · obtain ⟨hni, o, ho, he⟩ := (ready_iff S.ls).1 hi
      have hlt : i < listed.size := by rw [S.ls]; exact (Array.getElem?_eq_some_iff.1 ho).1
      have hl' : left (listed.setIfInBounds i true) = m := by have := left_set hlt hni; omega
      obtain ⟨n', done', pend', σ', S', h', hkp, hH', hnx', hfn⟩ := S.ahead has hk h
      have hmv0 : Mv ν σ.nx σ.H w ν σ'.nx σ'.H w := by rw [hH', hnx']; exact Mv.stay _ _ _ _ _ (Nat.le_refl _)
      unfold wpOp
      rw [ho]
      simp only
      by_cases hd : Di done' i
      · have hip : i ∈ pend' := (S'.dn i hd).resolve_left hni
        obtain ⟨v, hv, S2⟩ := S'.catch hk ho hip he
        have ih := regA_sound hT hI has hk m hl' S2 h' fun a' w' hland => hQ a' w' (hland.head S.hH hmv0 hkp)
        rcases hv with ⟨h1, h2⟩ | ⟨h1, rfl⟩
        · rw [if_pos h1]
          exact .inl (wp_of_run h2 ih)
        · rw [if_neg (by simp [h1])]
          exact ih
      · have hr : readyB done' i o = true := (readyB_iff ho S'.ds).2 ⟨hd, fun e hee => S'.ld e (he e hee)⟩
        have hc : chainOp P o.op = true := firstF_none _ hfn (i, o) (mem_os.2 ho) hr
        have hdst : ∀ t, o.dst = some t → t ∈ asq := fun t ht => has i o ho t (by simp [tch, ht])
        obtain ⟨hsee, _⟩ := S'.sees hk ho he
        cases n' with
        | zero =>
          unfold regA at h'
          split at h'
          · rename_i hall
            have hi' : i < done'.length := by rw [S'.ds, ← S'.ls]; exact hlt
            have := (List.all_eq_true.1 hall) _ (List.getElem_mem hi')
            exact absurd (by simpa [Di, List.getD_eq_getElem?_getD, List.getElem?_eq_getElem hi'] using this) hd
          · exact h'.elim
        | succ n' =>
          unfold regA at h'
          rw [hfn] at h'
          simp only at h'
          have hm : (i, o) ∈ (enum 0 ops.toList).filter fun x => readyB done' x.1 x.2 := List.mem_filter.2 ⟨mem_os.2 ho, hr⟩
          split at h'
          · rename_i hnil
            rw [hnil] at hm
            simp at hm
          · have h2 := conj_mem h' _ (List.mem_map.2 ⟨(i, o), hm, rfl⟩)
            have hg : gval ops o (blank (lag ops pend') σ'.tmps) = gval ops o σ'.tmps := gval_congr fun t ht => blank_no (hsee t (by simp [looks, ht]))
            have hev : ∀ x ∈ o.op.operands, ev (blank (lag ops pend') σ'.tmps) x = ev σ'.tmps x := ev_reads fun t ht => blank_no (hsee t (by simp [looks, ht]))
            rcases guardK_cases h2 with ⟨h1, h2⟩ | ⟨h1, h2⟩
            · rw [if_pos (gval_sound S'.tm (hg.trans h1))]
              refine .inl ?_
              simp only at h2
              rw [← opK_congr hev] at h2
              refine opK_sound hT hI S'.tm S'.hH h2 ?_
              rintro v w1 ⟨ν1, N1, H1, r, hrel, hH1, hm1, hK1⟩
              unfold ifB at hK1
              split at hK1
              · rename_i hst
                have S2 := S'.turn hk ho hr hc he hrel hH1 hm1 hst
                exact regA_sound hT hI has hk m hl' S2 hK1 fun a' w' hland => hQ a' w' (hland.head S.hH (hmv0.trans S.hH.st hm1) (hkp.trans (Kp.put asq _ r hdst)))
              · exact hK1.elim
            · rw [if_neg (by simp [gval_sound S'.tm (hg.trans h1)])]
              have hst : still P (enum 0 ops.toList) done' ((masks ops.toList []).getD i 0) σ'.tmps σ'.H σ'.H = true := by
                unfold still
                rw [List.all_eq_true]
                intro x _
                cases heapOf σ'.tmps x.2.op <;> simp
              have S2 := S'.turn (v := undef) hk ho hr hc he relR_unit S'.hH (Mv.stay _ _ _ _ _ (Nat.le_refl _)) hst
              exact regA_sound hT hI has hk m hl' S2 h2 fun a' w' hland => hQ a' w' (hland.head (σ1 := ⟨put σ'.tmps o.dst .unit, σ'.H, σ'.nx⟩) S.hH hmv0 (hkp.trans (Kp.put asq _ _ hdst)))
end
end Sx

set_option linter.all false
namespace Sx
open Go
def relRs (ν : Nu) (N : Nat) : List R → List Value → Prop
  | [], [] => True
  | a :: asq, v :: vs => relR ν N a v ∧ relRs ν N asq vs
  | _, _ => False
section
variable {ν ν' νf ν0 : Nu} {N N' N0 : Nat} {w : World} {H : Hp} {r : Rn} {K : Rn → Prop}
theorem mtRs_sound : ∀ {asq bs : List R} {vs : List Value} {r : Rn} {νf : Nu}, rnOK ν N νf r → relRs ν N bs vs → mtRs r asq bs K → MtOK ν N r νf K fun ν2 M => relRs ν2 M asq vs
  | [], [], [], r, νf, hr, _, h => ⟨r, νf, h, hr, RExt.refl _ _, fun _ _ _ _ _ => trivial⟩
  | a :: asq, b :: bs, v :: vs, r, νf, hr, hv, h => by
    obtain ⟨r1, ν1, h1, hr1, e1, f1⟩ := mtR_sound hr hv.1 h
    obtain ⟨r2, ν2, h2, hr2, e2, f2⟩ := mtRs_sound hr1 hv.2 h1
    exact ⟨r2, ν2, h2, hr2, e1.trans e2, fun r3 ν3 M e hM => ⟨f1.ext e2 r3 ν3 M e hM, f2 r3 ν3 M e hM⟩⟩
  | [], _ :: _, _, _, _, _, _, h => h.elim
  | _ :: _, [], _, _, _, _, _, h => h.elim
  | [], [], _ :: _, _, _, _, h, _ => h.elim
  | _ :: _, _ :: _, [], _, _, _, h, _ => h.elim
/-! ### what was known keeps to its labels -/
theorem relA_low (hN : N0 ≤ N) {a : A} {v v0 : Value} (h0 : relA ν0 N0 a v0) (h : relA ν N a v) : relA ν N0 a v := by
  cases a <;> first | exact h | exact ⟨h0.1, h.2⟩
theorem relAs_low (hN : N0 ≤ N) : ∀ {asq : List A} {vs us : List Value}, relAs ν0 N0 asq us → relAs ν N asq vs → relAs ν N0 asq vs
  | [], [], _, _, _ => trivial
  | _ :: _, _ :: _, _ :: _, h0, h => ⟨⟨relA_low hN h0.1.1 h.1.1, h.1.2⟩, relAs_low hN h0.2 h.2⟩
  | [], _ :: _, _, _, h => h.elim
  | _ :: _, [], _, _, h => h.elim
  | _ :: _, _ :: _, [], h0, _ => h0.elim
theorem relV_low (hN : N0 ≤ N) {a : V} {v v0 : Value} (h0 : relV ν0 N0 a v0) (h : relV ν N a v) : relV ν N0 a v := by
  cases a with
  | one a => exact relA_low hN h0 h
  | agg cs => obtain ⟨us, _, h0⟩ := h0; obtain ⟨vs, e, h⟩ := h; exact ⟨vs, e, relAs_low hN h0 h⟩
theorem relVs_low (hN : N0 ≤ N) : ∀ {asq : List V} {vs us : List Value}, relVs ν0 N0 asq us → relVs ν N asq vs → relVs ν N0 asq vs
  | [], [], _, _, _ => trivial
  | _ :: _, _ :: _, _ :: _, h0, h => ⟨relV_low hN h0.1 h.1, relVs_low hN h0.2 h.2⟩
  | [], _ :: _, _, _, h => h.elim
  | _ :: _, [], _, _, h => h.elim
  | _ :: _, _ :: _, [], h0, _ => h0.elim
theorem relR_low (hN : N0 ≤ N) {a : R} {v v0 : Value} (h0 : relR ν0 N0 a v0) (h : relR ν N a v) : relR ν N0 a v := by
  cases a with
  | v a => exact relV_low hN h0 h
  | tup asq => obtain ⟨us, _, h0⟩ := h0; obtain ⟨vs, e, h⟩ := h; exact ⟨vs, e, relVs_low hN h0 h⟩
/-! ### the head's variables and heap -/
theorem havoc_len (asq : List Nat) : ∀ tm : List R, (havoc tm asq).length = tm.length := by
  induction asq with
  | nil => intro tm; rfl
  | cons d asq ih => intro tm; exact (ih _).trans (by simp)
theorem havoc_get (asq : List Nat) : ∀ (tm : List R) (t : Nat), (havoc tm asq).getD t .junk = if t ∈ asq then .junk else tm.getD t .junk := by
  induction asq with
  | nil => intro tm t; simp [havoc]
  | cons d asq ih =>
    intro tm t
    have := ih (tm.set d .junk) t
    simp only [havoc, List.foldl_cons] at this ⊢
    rw [this]
    by_cases h1 : t ∈ asq
    · simp [h1]
    · by_cases h2 : t = d
      · subst h2
        by_cases hl : t < tm.length
        · simp [h1, List.getD_eq_getElem?_getD, List.getElem?_set, hl]
        · simp [h1, List.getD_eq_getElem?_getD, List.getElem?_set, hl]
      · simp [h1, h2, List.getD_eq_getElem?_getD, List.getElem?_set, Ne.symm h2]
theorem relT_set {tm : List R} {ts : Array Value} (ht : relT ν N tm ts) {s : Nat} {r : R} (hr : relR ν N r (ts.getD s undef)) : relT ν N (tm.set s r) ts := by
  refine ⟨by simp [ht.1], fun i => ?_⟩
  by_cases hi : i = s
  · subst hi
    by_cases hl : i < tm.length
    · simp only [List.getD_eq_getElem?_getD, List.getElem?_set, if_pos hl, if_true, Option.getD_some]
      exact hr
    · have := ht.2 i
      simpa [List.getD_eq_getElem?_getD, List.getElem?_set, hl, List.getElem?_eq_none (show tm.length ≤ i by omega)] using relR_junk _
  · have : (tm.set s r).getD i .junk = tm.getD i .junk := by simp [List.getD_eq_getElem?_getD, List.getElem?_set, Ne.symm hi]
    rw [this]
    exact ht.2 i
theorem relT_many {ts : Array Value} : ∀ {ss : List Nat} {rs : List R} {tm : List R}, relT ν N tm ts → relRs ν N rs (ss.map fun s => ts.getD s undef) → relT ν N (setMany tm ss rs) ts
  | [], [], tm, h, _ => h
  | s :: ss, r :: rs, tm, h, hr => show relT ν N (setMany (tm.set s r) ss rs) ts from relT_many (relT_set h hr.1) hr.2
  | [], _ :: _, _, h, _ => h
  | _ :: _, [], _, h, _ => h
theorem setMany_kp {asq : List Nat} : ∀ {ss : List Nat} {rs : List R} {tm : List R}, (∀ s ∈ ss, s ∈ asq) → Kp asq tm (setMany tm ss rs)
  | [], [], tm, _ => Kp.refl _ _
  | s :: ss, r :: rs, tm, h => (Kp.set asq tm r (h s (by simp))).trans (setMany_kp fun s hs => h s (by simp [hs]))
  | [], _ :: _, _, _ => Kp.refl _ _
  | _ :: _, [], _, _ => Kp.refl _ _
theorem havoc_kp (asq : List Nat) (tm : List R) : Kp asq tm (havoc tm asq) := ⟨havoc_len _ _, fun i hi => by rw [havoc_get, if_neg hi]⟩
theorem relRs_slots {tm : List R} {ts : Array Value} (ht : relT ν N tm ts) : ∀ ss : List Nat, relRs ν N (slotsOf tm ss) (ss.map fun s => ts.getD s undef)
  | [] => trivial
  | s :: ss => ⟨ht.2 s, relRs_slots ht ss⟩
theorem hget_newH (st : Nat) (H : Hp) (k : Nat) : ∀ (ls : List Nat) (os : List Ob), hget (newH st ls os H) k = (og (ls.zip os) k).or (hget H k)
  | [], os => by simp [newH, og]
  | l :: ls, [] => by simp [newH, og]
  | l :: ls, o :: os => by
    simp only [newH, List.zip_cons_cons, og, hget_hset, hget_newH st H k ls os]
    split <;> simp
theorem hst_newH (st : Nat) (H : Hp) (k : Nat) : ∀ (ls : List Nat) (os : List Ob), hst (newH st ls os H) k = if (og (ls.zip os) k).isSome then st else hst H k
  | [], os => by simp [newH, og]
  | l :: ls, [] => by simp [newH, og]
  | l :: ls, o :: os => by
    simp only [newH, List.zip_cons_cons, og, hst_hset, hst_newH st H k ls os]
    split <;> simp
theorem hget_dropH (st : Nat) (H : Hp) (k : Nat) : ∀ ls : List Nat, hget (dropH st ls H) k = if k ∈ ls then some .gone else hget H k
  | [] => by simp [dropH]
  | l :: ls => by
    simp only [dropH, hget_hset, hget_dropH st H k ls]
    by_cases h1 : l = k
    · simp [h1]
    · have h1' : ¬ k = l := fun e => h1 e.symm
      simp [h1, h1']
theorem hst_dropH (st : Nat) (H : Hp) (k : Nat) : ∀ ls : List Nat, hst (dropH st ls H) k = if k ∈ ls then st else hst H k
  | [] => by simp [dropH]
  | l :: ls => by
    simp only [dropH, hst_hset, hst_dropH st H k ls]
    by_cases h1 : l = k
    · simp [h1]
    · have h1' : ¬ k = l := fun e => h1 e.symm
      simp [h1, h1']
theorem maxL_ge : ∀ (ls : List Nat) (m : Nat), m ≤ maxL ls m ∧ ∀ l ∈ ls, l < maxL ls m
  | [], m => ⟨Nat.le_refl _, by simp⟩
  | l :: ls, m => by
    obtain ⟨h1, h2⟩ := maxL_ge ls (max (l + 1) m)
    refine ⟨Nat.le_trans (Nat.le_max_right _ _) h1, fun k hk => ?_⟩
    rcases List.mem_cons.1 hk with rfl | hk
    · have := Nat.le_max_left (k + 1) m
      show k < maxL ls (max (k + 1) m)
      omega
    · exact h2 k hk
theorem rget_idR {fix : List Nat} {l : Nat} {c : A} (h : rget (idR fix H) l = some c) : l ∈ fix ∧ c = idA H l := by
  induction fix with
  | nil => simp [idR, rget] at h
  | cons m fix ih =>
    simp only [idR, List.map_cons] at h
    rw [rget_cons] at h
    split at h
    · rename_i e
      subst e
      exact ⟨by simp, (Option.some.inj h).symm⟩
    · obtain ⟨h1, h2⟩ := ih h
      exact ⟨by simp [h1], h2⟩
theorem tgt_idA (H : Hp) (l : Nat) : tgt (idA H l) = some l := by
  unfold idA
  split <;> rfl
theorem idR_has {fix : List Nat} {l : Nat} (h : l ∈ fix) : ∃ c, rget (idR fix H) l = some c ∧ tgt c = some l := by
  induction fix with
  | nil => simp at h
  | cons m fix ih =>
    simp only [idR, List.map_cons]
    rw [rget_cons]
    by_cases e : m = l
    · subst e
      exact ⟨_, if_pos rfl, tgt_idA _ _⟩
    · rw [if_neg e]
      exact ih ((List.mem_cons.1 h).resolve_left fun e' => e e'.symm)
theorem rnOK_idR (hH : hpH ν N w H) {fix : List Nat} (hf : ∀ l ∈ fix, l < N) : rnOK ν N ν (idR fix H) := by
  intro l c hc
  obtain ⟨h1, h2⟩ := rget_idR hc
  have hl := hf l h1
  unfold idA at h2
  split at h2
  · rename_i ow ks xs hg
    subst h2
    obtain ⟨_, _, base, cap, h3, h4, _⟩ := row_cells (hH.ob _ _ hg).2
    exact ⟨hl, rfl, base, cap, h3, h4⟩
  · rename_i z n cs hg
    subst h2
    obtain ⟨_, _, e, vs, h3, _⟩ := (hH.ob _ _ hg).2
    obtain ⟨base, cap, h4, h5⟩ := own_ok h3
    exact ⟨hl, rfl, base, cap, h4, h5⟩
  · subst h2
    exact ⟨rfl, hl, rfl⟩
theorem keptH_get {H H' : Hp} {but : List Nat} (h : keptH H H' but = true) {l : Nat} {o : Ob} (hg : hget H l = some o) (hl : l ∉ but) : hst H' l = hst H l := by
  have : ∀ (G : Hp), (∀ q ∈ G, (but.contains q.1 || Nat.beq (hst H' q.1) q.2.1) = true) → hget G l = some o → hst H' l = hst G l := by
    intro G
    induction G with
    | nil => intro _ h; cases h
    | cons q G ih =>
      intro hq hg
      obtain ⟨m, s, ob⟩ := q
      rw [hget_cons] at hg
      rw [hst_cons]
      by_cases e : m = l
      · subst e
        have := hq (m, s, ob) (by simp)
        simp only [Bool.or_eq_true, List.contains_eq_mem, decide_eq_true_eq] at this
        rw [if_pos rfl]
        exact Nat.eq_of_beq_eq_true (this.resolve_left hl)
      · rw [if_neg e] at hg ⊢
        exact ih (fun q hq' => hq q (by simp [hq'])) hg
  exact this H (List.all_eq_true.1 h) hg
theorem og_zip_some {ls : List Nat} {os : List Ob} (hl : os.length = ls.length) {l : Nat} (h : l ∈ ls) : ∃ o, og (ls.zip os) l = some o := by
  induction ls generalizing os with
  | nil => simp at h
  | cons m ls ih =>
    cases os with
    | nil => simp at hl
    | cons o os =>
      simp only [List.zip_cons_cons, og]
      by_cases e : m = l
      · exact ⟨o, if_pos e⟩
      · rw [if_neg e]
        exact ih (by simpa using hl) ((List.mem_cons.1 h).resolve_left fun e' => e e'.symm)
theorem og_zip_mem {ls : List Nat} {os : List Ob} {l : Nat} {o : Ob} (h : og (ls.zip os) l = some o) : l ∈ ls ∧ o ∈ os ∧ (l, o) ∈ ls.zip os := ⟨(List.of_mem_zip (og_mem h)).1, (List.of_mem_zip (og_mem h)).2, og_mem h⟩
theorem rget_mem {l : Nat} {c : A} : ∀ {r : Rn}, rget r l = some c → (l, c) ∈ r
  | q :: r, h => by
    rw [show q = (q.1, q.2) from rfl, rget_cons] at h
    split at h
    · rename_i e
      have h := Option.some.inj h
      subst e
      subst h
      simp
    · exact List.mem_cons_of_mem _ (rget_mem h)
end
theorem head_at {an : Ann} {σ0 σ : St} {asq : List Nat} {ν0 ν : Nu} {a0 a : Act} {w0 w : World} {x : an.X} (hann : annOk an σ0 asq = true) (hkept : ∀ l o, hget σ0.H l = some o → l ∉ an.fix ++ an.drop → hst σ.H l = hst σ0.H l)
    (hA0 : At ν0 σ0 a0 w0) (hA : At ν σ a w) (hmv : Mv ν0 σ0.nx σ0.H w0 ν σ.nx σ.H w) (hkp : Kp asq σ0.tmps σ.tmps) (h : atHead an σ0 σ x) :
    ∃ ν', At ν' (headSt an σ0 asq x) a w ∧ Mv ν0 σ0.nx σ0.H w0 ν' (headSt an σ0 asq x).nx (headSt an σ0 asq x).H w ∧ Kp asq σ0.tmps (headSt an σ0 asq x).tmps := by
  simp only [annOk, Bool.and_eq_true, List.all_eq_true] at hann
  obtain ⟨hnew, hfix, hdrop, hslots⟩ := hann
  have hnew : ∀ l ∈ an.new, σ0.nx ≤ l := fun l hl => by simpa using hnew l hl
  have lt0 : ∀ l, (hget σ0.H l).isSome = true → l < σ0.nx := fun l hl => by
    obtain ⟨o, ho⟩ := Option.isSome_iff_exists.1 hl
    exact (hA0.2.2.ob l o ho).1
  have hfixlt : ∀ l ∈ an.fix ++ an.keep, l < σ0.nx := fun l hl => lt0 l (hfix l hl)
  have hdroplt : ∀ l ∈ an.drop, l < σ0.nx := fun l hl => lt0 l (hdrop l hl)
  have hslots : ∀ s ∈ an.slots, s ∈ asq := fun s hs => by simpa using hslots s hs
  obtain ⟨hmx1, hmx2⟩ := maxL_ge an.new σ0.nx
  -- matching
  have hr0 : rnOK ν σ.nx ν (idR (an.fix ++ an.keep) σ.H) := rnOK_idR hA.2.2 fun l hl => Nat.lt_of_lt_of_le (hfixlt l hl) hmv.le
  obtain ⟨r1, ν1, h1, hr1, e1, f1⟩ := mtRs_sound hr0 (relRs_slots hA.1 an.slots) h
  obtain ⟨r2, ν2, h2, hr2, e2, t2⟩ := mtHp_sound hA.2.2 hr1 h1
  unfold ifB at h2
  split at h2
  rotate_left
  · exact h2.elim
  rename_i hc
  simp only [Bool.and_eq_true, List.all_eq_true] at hc
  obtain ⟨⟨hap, hlen, hown⟩, hkeys, hnt⟩ := hc
  have hlen := Nat.eq_of_beq_eq_true hlen
  have hkeys : ∀ l c, rget r2 l = some c → l ∈ (an.fix ++ an.keep) ++ an.new := fun l c hl => by simpa using hkeys _ (rget_mem hl)
  have e02 := e1.trans e2
  have g0 : ∀ l, og ((an.fix ++ an.new).zip (an.obs x)) l = none → l ∉ an.fix ++ an.new := fun l hl hm => by
    obtain ⟨o, ho⟩ := og_zip_some hlen hm
    rw [hl] at ho
    cases ho
  have g1 : ∀ l o, og ((an.fix ++ an.new).zip (an.obs x)) l = some o → l ∈ an.fix ++ an.new ∧ ownOb o = true ∧ Tied ν w σ.H r2 ν2 l o := fun l o hl => by
    obtain ⟨q1, q2, q3⟩ := og_zip_mem hl
    exact ⟨q1, hown o q2, t2 (l, o) q3⟩
  generalize hg : og ((an.fix ++ an.new).zip (an.obs x)) = g at g0 g1
  -- the target of a fixed label is itself
  have tfix : ∀ l ∈ an.fix, (rget r2 l).bind tgt = some l := fun l hl => by
    obtain ⟨c, hc1, hc2⟩ := idR_has (H := σ.H) (List.mem_append_left an.keep hl)
    rw [e02.mono l c hc1]
    exact hc2
  have tnew : ∀ l ∈ an.new, ∀ t, (rget r2 l).bind tgt = some t → t ∈ an.drop ∨ hget σ0.H t = none := fun l hl t ht => by
    have := hnt l hl
    rw [ht] at this
    simpa using this
  -- the words for the head
  let ν' : Nu := ⟨fun l => if l < σ0.nx then ν0.blk l else ν2.blk l, fun l => if l < σ0.nx then ν0.sv l else ν2.sv l, fun l b => match g l with
    | some o => fpF ν ν2 r2 l b o
    | none => ν0.fp l b⟩
  have agN : agree σ0.nx ν0 ν' := fun l hl => by simp [ν', hl]
  have ex : RExt r2 ν2 r2 ν' := ⟨fun _ _ h => h, fun l c hl => by
    rcases List.mem_append.1 (hkeys l c hl) with hm | hm
    · have hlt := hfixlt l hm
      obtain ⟨c', hc', _⟩ := idR_has (H := σ.H) hm
      obtain ⟨s1, s2⟩ := e02.same l c' hc'
      obtain ⟨s3, s4⟩ := hmv.ag l hlt
      exact ⟨by simp [ν', hlt, s1, s3], by simp [ν', hlt, s2, s4]⟩
    · have hge := hnew l hm
      exact ⟨by simp [ν', show ¬ l < σ0.nx by omega], by simp [ν', show ¬ l < σ0.nx by omega]⟩⟩
  have keylt : ∀ l c, rget r2 l = some c → l < maxL an.new σ0.nx + 1 := fun l c hl => by
    rcases List.mem_append.1 (hkeys l c hl) with hm | hm
    · have := hfixlt l hm; omega
    · have := hmx2 l hm; omega
  have glt : ∀ l o, g l = some o → l < maxL an.new σ0.nx + 1 := fun l o hl => by
    rcases List.mem_append.1 (g1 l o hl).1 with hm | hm
    · have := hfixlt l (List.mem_append_left _ hm); omega
    · have := hmx2 l hm; omega
  have fps : ∀ l o, g l = some o → ∀ b, ν'.fp l b = fpF ν ν2 r2 l b o := fun l o hl b => by simp [ν', hl]
  have fpn : ∀ l, g l = none → ν'.fp l = ν0.fp l := fun l hl => by funext b; simp [ν', hl]
  have gH : ∀ l, hget (headSt an σ0 asq x).H l = (g l).or (if l ∈ an.drop then some .gone else hget σ0.H l) := fun l => by
    show hget (newH _ _ _ _) l = _
    rw [hget_newH, hg, hget_dropH]
  have sH : ∀ l, hst (headSt an σ0 asq x).H l = if (g l).isSome then maxL an.new σ0.nx else if l ∈ an.drop then maxL an.new σ0.nx else hst σ0.H l := fun l => by
    show hst (newH _ _ _ _) l = _
    rw [hst_newH, hg, hst_dropH]
  have fpOof : ∀ (ν0 : Nu) m om b, ownOb om = true → ν0.fp m b → fpO ν0 m om b := fun ν0 m om b h hb => by cases om <;> first | exact hb | cases h
  have fpOwn : ∀ (ν0 : Nu) m om b, fpO ν0 m om b → ν0.fp m b := fun ν0 m om b h => by cases om <;> first | exact h | exact h.elim
  -- what stays
  have getK : ∀ l o, g l = none → l ∉ an.drop → hget (headSt an σ0 asq x).H l = some o → hget σ0.H l = some o := fun l o h1 h2 h3 => by
    rw [gH, h1, if_neg h2] at h3
    exact h3
  have stK : ∀ l o, g l = none → l ∉ an.drop → hget σ0.H l = some o → hst σ.H l = hst σ0.H l := fun l o h1 h2 h3 => hkept l o h3 fun h4 => by
    have := g0 l h1
    rw [List.mem_append] at h4 this
    rcases h4 with h4 | h4
    · exact this (.inl h4)
    · exact h2 h4
  -- an own label of the head: its blocks
  have ownB : ∀ l o, g l = some o → ∀ b, ν'.fp l b → ∃ m om, (rget r2 l).bind tgt = some m ∧ hget σ.H m = some om ∧ ownOb om = true ∧ ν.fp m b := fun l o hl b hb => by
    rw [fps l o hl] at hb
    obtain ⟨m, om, q1, q2, q3, q4⟩ := tied_fp hA.2.2 hr2 (g1 l o hl).2.2 hb
    exact ⟨m, om, q1, q2, q4 (g1 l o hl).2.1, fpOwn _ _ _ _ q3⟩
  have notK : ∀ l o, g l = some o → ∀ b, ν'.fp l b → ∀ m0 om0, hget σ0.H m0 = some om0 → ownOb om0 = true → ν0.fp m0 b → ¬ (g m0 = none ∧ m0 ∉ an.drop) := by
    rintro l o hl b hb m0 om0 hm0 ho0 hb0 ⟨k1, k2⟩
    obtain ⟨m, om, q1, q2, q3, q4⟩ := ownB l o hl b hb
    obtain ⟨p1, p2, _⟩ := hmv.kp m0 om0 hm0 (stK m0 om0 k1 k2 hm0)
    have : m = m0 := Classical.byContradiction fun hne => hA.2.2.ap m m0 om om0 hne q2 p1 (.inl q3) b (fpOof _ _ _ _ q3 q4) (fpOof _ _ _ _ ho0 (by rw [p2]; exact hb0))
    subst this
    rcases List.mem_append.1 (g1 l o hl).1 with hm | hm
    · rw [tfix l hm] at q1
      cases q1
      rw [hl] at k1
      cases k1
    · rcases tnew l hm m q1 with h | h
      · exact k2 h
      · rw [h] at hm0; cases hm0
  have hstlt : ∀ l o, hget (headSt an σ0 asq x).H l = some o → hst (headSt an σ0 asq x).H l < maxL an.new σ0.nx + 1 := fun l o hl => by
    rw [sH]
    split
    · omega
    · rename_i h1
      split
      · omega
      · rename_i h2
        have := hA0.2.2.st l o (getK l o (by simpa using h1) h2 hl)
        omega
  have hS2 : hpH ν' (maxL an.new σ0.nx + 1) w (headSt an σ0 asq x).H := by
    refine hpH_upd hA0.2.2 (fun l => g l = none ∧ l ∉ an.drop) hstlt (by omega) agN hmv.go.size ?_ ?_ ?_ ?_ ?_
    · exact fun l o hk hl => ⟨getK l o hk.1 hk.2 hl, fpn l hk.1⟩
    · exact fun l o hk hl b hb => (hmv.kp l o hl (stK l o hk.1 hk.2 hl)).2.2 b hb
    · intro l o hk hl
      cases hgl : g l with
      | some o' =>
        rw [gH, hgl] at hl
        cases hl
        exact ⟨glt l o hgl, close_ob hA.2.2 hr2 (g1 l o hgl).2.2 ex keylt (fps l o hgl)⟩
      | none =>
        have hd : l ∈ an.drop := Classical.byContradiction fun hd => hk ⟨hgl, hd⟩
        rw [gH, hgl, if_pos hd] at hl
        cases hl
        have := hdroplt l hd
        exact ⟨by omega, trivial⟩
    · intro l o hk hl b hb
      cases hgl : g l with
      | some o' =>
        rw [gH, hgl] at hl
        cases hl
        have hb := fpOwn _ _ _ _ hb
        obtain ⟨m, om, q1, q2, q3, q4⟩ := ownB l o hgl b hb
        rcases hmv.own b ⟨m, om, q2, q3, q4⟩ with ⟨m0, om0, p1, p2, p3⟩ | hge
        · exact .inr ⟨m0, om0, notK l o hgl b hb m0 om0 p1 p2 p3, p1, p2, fpOof _ _ _ _ p2 p3⟩
        · exact .inl hge
      | none =>
        have hd : l ∈ an.drop := Classical.byContradiction fun hd => hk ⟨hgl, hd⟩
        rw [gH, hgl, if_pos hd] at hl
        cases hl
        exact hb.elim
    · intro l l' o o' hne hk hk' hl hl' _ b hb hb'
      cases hgl : g l with
      | none =>
        have hd : l ∈ an.drop := Classical.byContradiction fun hd => hk ⟨hgl, hd⟩
        rw [gH, hgl, if_pos hd] at hl
        cases hl
        exact hb.elim
      | some p =>
        cases hgl' : g l' with
        | none =>
          have hd : l' ∈ an.drop := Classical.byContradiction fun hd => hk' ⟨hgl', hd⟩
          rw [gH, hgl', if_pos hd] at hl'
          cases hl'
          exact hb'.elim
        | some p' =>
          obtain ⟨m, om, q1, q2, q3, q4⟩ := ownB l p hgl b (fpOwn _ _ _ _ hb)
          obtain ⟨m', om', q1', q2', q3', q4'⟩ := ownB l' p' hgl' b (fpOwn _ _ _ _ hb')
          by_cases e : m = m'
          · subst e
            rw [← hg] at hgl hgl'
            have z := apartR_ne hap (l, p) (l', p') (og_mem hgl) (og_mem hgl') hne m q1 q1'
            rw [hg] at hgl hgl'
            have za := (g1 l p hgl).2.1
            have zb := (g1 l' p' hgl').2.1
            simp only at z
            rcases z with z | z | z
            · rw [z] at za; cases za
            · rw [z] at zb; cases zb
            · rw [z.1] at za; cases za
          · exact hA.2.2.ap m m' om om' e q2 q2' (.inl q3) b (fpOof _ _ _ _ q3 q4) (fpOof _ _ _ _ q3' q4')
  refine ⟨ν', ⟨?_, hA.2.1, hS2⟩, ⟨hmv.go, ?_, agN, (by show σ0.nx ≤ maxL an.new σ0.nx + 1; omega), ?_, ?_⟩, (havoc_kp asq σ0.tmps).trans (setMany_kp hslots)⟩
  · refine relT_many ?_ (f1.ext e2 r2 ν' _ ex keylt)
    refine ⟨?_, fun t => ?_⟩
    · rw [havoc_len]
      exact hkp.1.symm.trans hA.1.1
    · rw [havoc_get]
      split
      · exact relR_junk _
      · rename_i ht
        have hx := hA.1.2 t
        rw [hkp.2 t ht] at hx
        have hlow := relR_low hmv.le (hA0.1.2 t) hx
        have ag2 : agree σ0.nx ν ν' := fun l hl => ⟨(agN l hl).1.trans (hmv.ag l hl).1.symm, (agN l hl).2.trans (hmv.ag l hl).2.symm⟩
        exact relR_mono ag2 (by show σ0.nx ≤ maxL an.new σ0.nx + 1; omega) hlow
  · rintro b ⟨l, o, hl, ho, hb⟩
    cases hgl : g l with
    | some p =>
      obtain ⟨m, om, q1, q2, q3, q4⟩ := ownB l p hgl b hb
      exact hmv.own b ⟨m, om, q2, q3, q4⟩
    | none =>
      by_cases hd : l ∈ an.drop
      · rw [gH, hgl, if_pos hd] at hl
        cases hl
        cases ho
      · rw [fpn l hgl] at hb
        exact .inl ⟨l, o, getK l o hgl hd hl, ho, hb⟩
  · intro l o hl he
    have hlt := hA0.2.2.st l o hl
    rw [sH] at he
    cases hgl : g l with
    | some p => rw [hgl] at he; simp at he; omega
    | none =>
      rw [hgl] at he
      simp only [Option.isSome_none, Bool.false_eq_true, if_false] at he
      by_cases hd : l ∈ an.drop
      · rw [if_pos hd] at he; omega
      · exact ⟨by rw [gH, hgl, if_neg hd]; exact hl, fpn l hgl, (hmv.kp l o hl (stK l o hgl hd hl)).2.2⟩
  · intro l
    rw [sH]
    split
    · exact .inr hmx1
    · split
      · exact .inr hmx1
      · exact .inl rfl
end Sx

set_option linter.all false
namespace Sx
open Go
def exM : Ex → Exit → Prop
  | .n, .normal => True
  | .x i, .exit j => i = j
  | .r, .ret => True
  | _, _ => False
def LandsX (asq : List Nat) (ν : Nu) (σ : St) (w : World) (Q : Ex → St → Prop) (e : Exit) (a' : Act) (w' : World) : Prop := ∃ e', exM e' e ∧ Lands asq ν σ w (Q e') a' w'
section
variable {P : Program} {T : FuncId → Option Con} {inl : FuncId → List V → Hp → Nat → (R → Hp → Nat → Prop) → Prop} {Lp : Nat → Lan}
theorem LandsX.head {asq : List Nat} {σ σ1 : St} {ν ν1 : Nu} {w w1 w' : World} {Q : Ex → St → Prop} {e : Exit} {a : Act} (hH : hpH ν σ.nx w σ.H) (hm : Mv ν σ.nx σ.H w ν1 σ1.nx σ1.H w1) (hk : Kp asq σ.tmps σ1.tmps) (h : LandsX asq ν1 σ1 w1 Q e a w') : LandsX asq ν σ w Q e a w' :=
  let ⟨e', h1, h2⟩ := h; ⟨e', h1, h2.head hH hm hk⟩
theorem LandsX.mono {asq bs : List Nat} {σ : St} {ν : Nu} {w w' : World} {Q Q' : Ex → St → Prop} {e : Exit} {a : Act} (h : LandsX asq ν σ w Q e a w') (hs : ∀ i ∈ asq, i ∈ bs) (hq : ∀ e σ, Q e σ → Q' e σ) : LandsX bs ν σ w Q' e a w' :=
  let ⟨e', h1, h2⟩ := h; ⟨e', h1, h2.mono hs (hq e')⟩
theorem LandsX.normal {asq : List Nat} {σ : St} {ν : Nu} {w w' : World} {Q : Ex → St → Prop} {a : Act} (h : LandsX asq ν σ w Q .normal a w') : Lands asq ν σ w (Q .n) a w' := by
  obtain ⟨e', h1, h2⟩ := h
  cases e' with
  | n => exact h2
  | x i => exact h1.elim
  | r => exact h1.elim
theorem lands_here {asq : List Nat} {σ : St} {ν : Nu} {w : World} {a : Act} {Q : St → Prop} (hA : At ν σ a w) (h : Q σ) : Lands asq ν σ w Q a w := ⟨ν, σ, hA, Mv.stay _ _ _ _ _ (Nat.le_refl _), Kp.refl _ _, h⟩
theorem at_drawn {ν : Nu} {σ : St} {a : Act} {w : World} (hA : At ν σ a w) : At ν σ a { w with drawn := w.drawn + 1 } := by
  refine ⟨hA.1, hA.2.1, ⟨fun l o hl => ?_, hA.2.2.st, hA.2.2.ap⟩⟩
  obtain ⟨h1, h2⟩ := hA.2.2.ob l o hl
  exact ⟨h1, obH_kept (fun _ _ => ⟨rfl, rfl⟩) (Nat.le_refl _) (Nat.le_refl _) h1 rfl (fun _ _ => rfl) h2⟩
theorem mv_drawn (ν : Nu) (N : Nat) (H : Hp) (w : World) : Mv ν N H w ν N H { w with drawn := w.drawn + 1 } :=
  ⟨⟨rfl, rfl, rfl, Nat.le_refl _, fun _ _ _ => rfl⟩, fun _ h => .inl h, fun _ _ => ⟨rfl, rfl⟩, Nat.le_refl _, fun _ _ h _ => ⟨h, rfl, fun _ _ => rfl⟩, fun _ => .inl rfl⟩
theorem left_rep (n : Nat) : left (Array.replicate n false) = n := by
  simp [left, List.countP_replicate]
theorem sim_start {ops : Array Oper} {ν : Nu} {σ : St} {a : Act} {w : World} (hA : At ν σ a w) : Sim P ops (Array.replicate ops.size false) (List.replicate ops.size false) [] ν σ a w := by
  have hl : ∀ i, ¬ Li (Array.replicate ops.size false) i := fun i h => by
    simp only [Li, Array.getD_eq_getD_getElem?, Array.getElem?_replicate] at h
    split at h <;> simp at h
  have hd : ∀ i, ¬ Di (List.replicate ops.size false) i := fun i h => by
    simp [Di, List.getD_eq_getElem?_getD, List.getElem?_replicate] at h
    split at h <;> simp at h
  exact ⟨by simp, by simp, by simp, fun i h => absurd h (hd i), fun i h => absurd h (hl i), fun i _ _ h => absurd h (hl i), fun i _ _ h => absurd h (hd i), trivial, hA.1.1, fun t => .inr (hA.1.2 t), hA.2.1, hA.2.2⟩
theorem tch_asg {id : Nat} {ops : Array Oper} {dr : Bool} {o : Oper} (ho : o ∈ ops.toList) : ∀ t ∈ tch ops o, t ∈ asg (.region id ops dr) := by
  intro t ht
  simp only [tch, List.mem_append, Option.mem_toList] at ht
  simp only [asg, List.mem_append, List.mem_filterMap]
  rcases ht with ht | ht
  · exact .inl ⟨o, ho, ht⟩
  · exact .inr ⟨o, ho, ht⟩
theorem rounds_mono {c : Code} {Q Q' : Exit → Act → World → Prop} (h : ∀ e a w, Q e a w → Q' e a w) : ∀ {n : Nat} {a : Act} {w : World}, Code.rounds P c Q n a w → Code.rounds P c Q' n a w
  | 0, _, _, hr => hr
  | n + 1, a, w, hr => by
    rw [rounds_succ] at hr ⊢
    refine wp_mono hr fun e a w hq => ?_
    cases e with
    | normal => exact rounds_mono h hq
    | exit i => exact h _ _ _ hq
    | goto i => exact h _ _ _ hq
    | ret => exact h _ _ _ hq
    | panic c => exact h _ _ _ hq
    | outgrown => exact h _ _ _ hq
theorem cond_set {t : Nat} {tm : List R} {x : Bool} (h : tm.getD t .junk = .b x) : tm.set t (.b x) = tm := set_same h
theorem vc_sound (hM : P.follows .mixedOrders = true) (hT : ∀ f S, T f = some S → Good P f S) (hI : InlOK P inl) : ∀ (c : Code) {k : Nat} {σ : St} {Q : Ex → St → Prop} {ν : Nu} {a : Act} {w : World}, At ν σ a w → vc P T inl Lp c k σ Q → c.wp P (LandsX (asg c) ν σ w Q) a w
  | .skip, k, σ, Q, ν, a, w, hA, h => wp_skip ⟨.n, trivial, lands_here hA h⟩
  | .exit id, k, σ, Q, ν, a, w, hA, h => wp_exit ⟨.x id, rfl, lands_here hA h⟩
  | .ret, k, σ, Q, ν, a, w, hA, h => wp_ret ⟨.r, trivial, lands_here hA h⟩
  | .region id ops false, k, σ, Q, ν, a, w, hA, h =>
    wp_region_list (vcOps_sound hT hI (asq := asg (.region id ops false)) (fun o ho => tch_asg ho) hA h fun a' w' hl => ⟨.n, trivial, hl⟩)
  | .region id ops true, k, σ, Q, ν, a, w, hA, h => by
    have h : ifB (okReg P ops) (regA P T inl ops (enum 0 ops.toList) (masks ops.toList []) ops.size (List.replicate ops.size false) σ (Q .n)) False := h
    unfold ifB at h
    split at h
    · rename_i hk
      refine wp_region_any hM (regA_sound hT hI (asq := asg (.region id ops true)) (fun i o ho => tch_asg (by rw [Array.mem_toList_iff]; exact Array.mem_of_getElem? ho)) hk ops.size (left_rep _) (sim_start (at_drawn hA)) h fun a' w' hl => ⟨.n, trivial, ?_⟩)
      exact hl.head hA.2.2 (mv_drawn _ _ _ _) (Kp.refl _ _)
    · exact h.elim
  | .seq c d, k, σ, Q, ν, a, w, hA, h => by
    refine wp_seq (wp_mono (vc_sound hM hT hI c hA h) fun e a1 w1 hl => ?_)
    have go : ∀ e', exM e' e → e' ≠ .n → LandsX (asg c) ν σ w (fun e σ => match e with | .n => vc P T inl Lp d k σ Q | e => Q e σ) e a1 w1 → LandsX (asg (.seq c d)) ν σ w Q e a1 w1 := by
      rintro e' h1 h2 ⟨e2, h3, h4⟩
      refine ⟨e2, h3, h4.mono (by simp only [asg, List.mem_append]; exact fun i hi => .inl hi) ?_⟩
      cases e2 with
      | n => cases e <;> cases e' <;> first | exact absurd rfl h2 | exact h3.elim | exact h1.elim
      | x i => exact fun _ h => h
      | r => exact fun _ h => h
    cases e with
    | normal =>
      obtain ⟨ν1, σ1, hA1, hm1, hk1, h1⟩ := hl.normal
      refine wp_mono (vc_sound hM hT hI d hA1 h1) fun e a2 w2 h2 => ?_
      have h2 : LandsX (asg (.seq c d)) ν1 σ1 w1 Q e a2 w2 := h2.mono (by simp only [asg, List.mem_append]; exact fun i hi => .inr hi) fun _ _ h => h
      exact h2.head hA.2.2 hm1 (hk1.mono (by simp only [asg, List.mem_append]; exact fun i hi => .inl hi))
    | exit i => exact go (.x i) rfl (by simp) hl
    | ret => exact go .r trivial (by simp) hl
    | goto i => obtain ⟨e', h1, _⟩ := hl; cases e' <;> exact h1.elim
    | panic c => obtain ⟨e', h1, _⟩ := hl; cases e' <;> exact h1.elim
    | outgrown => obtain ⟨e', h1, _⟩ := hl; cases e' <;> exact h1.elim
  | .cond cnd c d, k, σ, Q, ν, a, w, hA, h => by
    have hsub1 : ∀ i ∈ asg c, i ∈ asg (.cond cnd c d) := fun i hi => by simp only [asg, List.mem_append]; exact .inl (.inr hi)
    have hsub2 : ∀ i ∈ asg d, i ∈ asg (.cond cnd c d) := fun i hi => by simp only [asg, List.mem_append]; exact .inr hi
    have fin : ∀ x : Bool, ev σ.tmps cnd = .b x → ifB x (vc P T inl Lp c k σ Q) (vc P T inl Lp d k σ Q) → (Code.cond cnd c d).wp P (LandsX (asg (.cond cnd c d)) ν σ w Q) a w := by
      intro x hx h
      have he : a.eval cnd = .bool x := by
        have := relR_ev hA.1 cnd
        rw [hx] at this
        exact this.2
      cases x with
      | true => exact wp_cond_true he (wp_mono (vc_sound hM hT hI c hA h) fun e a' w' hl => hl.mono hsub1 fun _ _ h => h)
      | false => exact wp_cond_false he (wp_mono (vc_sound hM hT hI d hA h) fun e a' w' hl => hl.mono hsub2 fun _ _ h => h)
    unfold vc at h
    split at h
    · rename_i t x hx
      refine fin x hx ?_
      have hx' : σ.tmps.getD t .junk = .b x := hx
      cases x with
      | true => simp only [ifB] at h ⊢; rw [set_same hx'] at h; exact h
      | false => simp only [ifB] at h ⊢; rw [set_same hx'] at h; exact h
    · rename_i v x hx
      exact fin x hx h
    · exact h.elim
  | .block id c, k, σ, Q, ν, a, w, hA, h => by
    refine wp_block (wp_mono (vc_sound hM hT hI c hA h) fun e a1 w1 hl => ?_)
    have same : ∀ i ∈ asg c, i ∈ asg (.block id c) := fun i hi => hi
    cases e with
    | normal => exact ⟨.n, trivial, hl.normal.mono same fun _ h => h⟩
    | exit i =>
      obtain ⟨e', h1, h2⟩ := hl
      cases e' with
      | n => exact h1.elim
      | r => exact h1.elim
      | x j =>
        have h1 : j = i := h1
        subst h1
        simp only [Exit.inBlock]
        split
        · rename_i hj
          subst hj
          refine ⟨.n, trivial, h2.mono same fun σ1 h => ?_⟩
          simpa using h
        · rename_i hj
          refine ⟨.x j, rfl, h2.mono same fun σ1 h => ?_⟩
          simpa [beq_no hj] using h
    | ret =>
      obtain ⟨e', h1, h2⟩ := hl
      cases e' with
      | r => exact ⟨.r, trivial, h2.mono same fun _ h => h⟩
      | n => exact h1.elim
      | x j => exact h1.elim
    | goto i => obtain ⟨e', h1, _⟩ := hl; cases e' <;> exact h1.elim
    | panic c => obtain ⟨e', h1, _⟩ := hl; cases e' <;> exact h1.elim
    | outgrown => obtain ⟨e', h1, _⟩ := hl; cases e' <;> exact h1.elim
  | .loop c, k, σ, Q, ν, a, w, hA, h => by
    have ihc : ∀ {σ : St} {Q : Ex → St → Prop} {ν : Nu} {a : Act} {w : World}, At ν σ a w → vc P T inl Lp c k σ Q → c.wp P (LandsX (asg c) ν σ w Q) a w := fun hA h => vc_sound hM hT hI c hA h
    have keyI : ∀ an : Ann, invP an σ (asg c) (fun σ Q => vc P T inl Lp c k σ Q) Q → (Code.loop c).wp P (LandsX (asg (.loop c)) ν σ w Q) a w := by
      intro an h
      unfold invP ifB at h
      split at h
      rotate_left
      · exact h.elim
      rename_i hann
      obtain ⟨I, μ, ⟨x0, hI0, hat0⟩, hbody⟩ := h
      obtain ⟨ν1, hA1, hm1, hk1⟩ := head_at hann (fun l o _ _ => rfl) hA hA (Mv.stay ν σ.nx σ.nx σ.H w (Nat.le_refl _)) (Kp.refl (asg c) σ.tmps) hat0
      refine wp_loop_ghost (fun n a' w' => ∃ x ν', I x ∧ μ x = n ∧ At ν' (headSt an σ (asg c) x) a' w' ∧ Mv ν σ.nx σ.H w ν' (headSt an σ (asg c) x).nx (headSt an σ (asg c) x).H w' ∧ Kp (asg c) σ.tmps (headSt an σ (asg c) x).tmps) (μ x0) ⟨x0, ν1, hI0, rfl, hA1, hm1, hk1⟩ ?_
      rintro n a' w' ⟨x, ν', hIx, rfl, hA', hm', hk'⟩
      refine wp_mono (ihc hA' (hbody x hIx)) fun e a2 w2 hl => ?_
      cases e with
      | normal =>
        obtain ⟨ν2, σ2, hA2, hm2, hk2, h2⟩ := hl.normal
        simp only at h2
        split at h2
        · rename_i hkept
          obtain ⟨y, hIy, hlt, haty⟩ := h2
          have hm3 := hm'.trans hA.2.2.st hm2
          have hk3 := hk'.trans hk2
          obtain ⟨ν3, hA3, hm4, hk4⟩ := head_at hann (fun l o h1 h2 => keptH_get hkept h1 h2) hA hA2 hm3 hk3 haty
          exact ⟨μ y, hlt, y, ν3, hIy, rfl, hA3, hm4, hk4⟩
        · exact h2.elim
      | exit i =>
        obtain ⟨e', h1, h2⟩ := hl
        cases e' with
        | x j => exact ⟨.x j, h1, h2.head hA.2.2 hm' hk'⟩
        | n => exact h1.elim
        | r => exact h1.elim
      | ret =>
        obtain ⟨e', h1, h2⟩ := hl
        cases e' with
        | r => exact ⟨.r, trivial, h2.head hA.2.2 hm' hk'⟩
        | n => exact h1.elim
        | x j => exact h1.elim
      | goto i => obtain ⟨e', h1, _⟩ := hl; cases e' <;> exact h1.elim
      | panic c => obtain ⟨e', h1, _⟩ := hl; cases e' <;> exact h1.elim
      | outgrown => obtain ⟨e', h1, _⟩ := hl; cases e' <;> exact h1.elim
    have keyM : ∀ l : List Ann, manyP l σ (asg c) (fun σ Q => vc P T inl Lp c k σ Q) Q → (Code.loop c).wp P (LandsX (asg (.loop c)) ν σ w Q) a w := by
      intro l h
      unfold manyP ifB at h
      split at h
      rotate_left
      · exact h.elim
      rename_i hann
      simp only [List.all_eq_true] at hann
      have pick : ∀ (l : List Ann) (acc : List AnnI) (K : List AnnI → Prop), manyE l acc K → (∀ a ∈ l, annOk a σ (asg c) = true) → (∀ j ∈ acc, annOk j.an σ (asg c) = true) → ∃ js : List AnnI, (∀ j ∈ js, annOk j.an σ (asg c) = true) ∧ K js := by
        intro l
        induction l with
        | nil => exact fun acc K h _ h2 => ⟨acc, h2, h⟩
        | cons b l ih =>
          rintro acc K ⟨I, μ, h⟩ h1 h2
          refine ih _ K h (fun a ha => h1 a (List.mem_cons_of_mem _ ha)) fun j hj => ?_
          rcases List.mem_append.1 hj with hj | hj
          · exact h2 j hj
          · obtain rfl := List.mem_singleton.1 hj
            exact h1 b List.mem_cons_self
      obtain ⟨js, hjs, hat0, hbody⟩ := pick l [] _ h hann fun j hj => by cases hj
      have any : ∀ {σ1 : St} {lt : Nat → Prop} (l : List AnnI), anyH σ σ1 lt l → ∃ j ∈ l, keptH σ.H σ1.H (j.an.fix ++ j.an.drop) = true ∧ ∃ y, j.I y ∧ lt (j.μ y) ∧ atHead j.an σ σ1 y := by
        intro σ1 lt l
        induction l with
        | nil => exact fun h => h.elim
        | cons j l ih =>
          rintro (h | h)
          · unfold ifB at h
            split at h
            · rename_i hk
              exact ⟨j, List.mem_cons_self, hk, h⟩
            · exact h.elim
          · obtain ⟨j', h1, h2⟩ := ih h
            exact ⟨j', List.mem_cons_of_mem _ h1, h2⟩
      have each : ∀ (l : List AnnI), eachB σ (asg c) (fun σ Q => vc P T inl Lp c k σ Q) Q js l → ∀ j ∈ l, ∀ x, j.I x → vc P T inl Lp c k (headSt j.an σ (asg c) x) fun e σ' => match e with
          | .n => anyH σ σ' (fun m => m < j.μ x) js
          | e => Q e σ' := by
        intro l
        induction l with
        | nil => exact fun _ j hj => by cases hj
        | cons j0 l ih =>
          rintro ⟨h1, h2⟩ j hj
          rcases List.mem_cons.1 hj with rfl | hj
          · exact h1
          · exact ih h2 j hj
      obtain ⟨j0, hj0, hk0, x0, hI0, _, hat0⟩ := any js hat0
      obtain ⟨ν1, hA1, hm1, hk1⟩ := head_at (hjs j0 hj0) (fun l o _ _ => rfl) hA hA (Mv.stay ν σ.nx σ.nx σ.H w (Nat.le_refl _)) (Kp.refl (asg c) σ.tmps) hat0
      refine wp_loop_ghost (fun n a' w' => ∃ j ∈ js, ∃ x ν', j.I x ∧ j.μ x = n ∧ At ν' (headSt j.an σ (asg c) x) a' w' ∧ Mv ν σ.nx σ.H w ν' (headSt j.an σ (asg c) x).nx (headSt j.an σ (asg c) x).H w' ∧ Kp (asg c) σ.tmps (headSt j.an σ (asg c) x).tmps) (j0.μ x0) ⟨j0, hj0, x0, ν1, hI0, rfl, hA1, hm1, hk1⟩ ?_
      rintro n a' w' ⟨j, hj, x, ν', hIx, rfl, hA', hm', hk'⟩
      refine wp_mono (ihc hA' (each js hbody j hj x hIx)) fun e a2 w2 hl => ?_
      cases e with
      | normal =>
        obtain ⟨ν2, σ2, hA2, hm2, hk2, h2⟩ := hl.normal
        obtain ⟨j2, hj2, hkept, y, hIy, hlt, haty⟩ := any js h2
        have hm3 := hm'.trans hA.2.2.st hm2
        have hk3 := hk'.trans hk2
        obtain ⟨ν3, hA3, hm4, hk4⟩ := head_at (hjs j2 hj2) (fun l o h1 h2 => keptH_get hkept h1 h2) hA hA2 hm3 hk3 haty
        exact ⟨j2.μ y, hlt, j2, hj2, y, ν3, hIy, rfl, hA3, hm4, hk4⟩
      | exit i =>
        obtain ⟨e', h1, h2⟩ := hl
        cases e' with
        | x j => exact ⟨.x j, h1, h2.head hA.2.2 hm' hk'⟩
        | n => exact h1.elim
        | r => exact h1.elim
      | ret =>
        obtain ⟨e', h1, h2⟩ := hl
        cases e' with
        | r => exact ⟨.r, trivial, h2.head hA.2.2 hm' hk'⟩
        | n => exact h1.elim
        | x j => exact h1.elim
      | goto i => obtain ⟨e', h1, _⟩ := hl; cases e' <;> exact h1.elim
      | panic c => obtain ⟨e', h1, _⟩ := hl; cases e' <;> exact h1.elim
      | outgrown => obtain ⟨e', h1, _⟩ := hl; cases e' <;> exact h1.elim
    unfold vc at h
    split at h
    · cases h
    · rename_i n _
      refine wp_loop_rounds n ?_
      have key : ∀ (n : Nat) {σ : St} {ν : Nu} {a : Act} {w : World}, At ν σ a w → unr (fun σ Q => vc P T inl Lp c k σ Q) n σ Q → Code.rounds P c (LandsX (asg (.loop c)) ν σ w Q) n a w := by
        intro n
        induction n with
        | zero => intro σ ν a w hA h; exact h.elim
        | succ n ih =>
          intro σ ν a w hA h
          rw [rounds_succ]
          refine wp_mono (ihc hA h) fun e a1 w1 hl => ?_
          cases e with
          | normal =>
            obtain ⟨ν1, σ1, hA1, hm1, hk1, h1⟩ := hl.normal
            exact rounds_mono (fun e a2 w2 h2 => h2.head hA.2.2 hm1 hk1) (ih hA1 h1)
          | exit i =>
            obtain ⟨e', h1, h2⟩ := hl
            cases e' with
            | x j => exact ⟨.x j, h1, h2⟩
            | n => exact h1.elim
            | r => exact h1.elim
          | ret =>
            obtain ⟨e', h1, h2⟩ := hl
            cases e' with
            | r => exact ⟨.r, trivial, h2⟩
            | n => exact h1.elim
            | x j => exact h1.elim
          | goto i => obtain ⟨e', h1, _⟩ := hl; cases e' <;> exact h1.elim
          | panic c => obtain ⟨e', h1, _⟩ := hl; cases e' <;> exact h1.elim
          | outgrown => obtain ⟨e', h1, _⟩ := hl; cases e' <;> exact h1.elim
      exact key n hA h
    · rename_i an _
      exact keyI an h
    · split at h
      · exact keyI _ h
      · cases h
    · exact keyM _ h
  | .rangeFunc .., k, σ, Q, ν, a, w, hA, h => h.elim
  | .scope c, k, σ, Q, ν, a, w, hA, h => h.elim
  | .label l, k, σ, Q, ν, a, w, hA, h => h.elim
  | .goto l, k, σ, Q, ν, a, w, hA, h => h.elim
  | .refuse l, k, σ, Q, ν, a, w, hA, h => h.elim
end
end Sx

set_option linter.all false
namespace Sx
open Go
section
variable {P : Program} {T : FuncId → Option Con} {inl : FuncId → List V → Hp → Nat → (R → Hp → Nat → Prop) → Prop} {Lp : Nat → Lan}
theorem recast {ν0 ν ν2 : Nu} {N0 N st M : Nat} {H0 H H' : Hp} {w0 w : World} {r2 : Rn} {g : Nat → Option Ob} (hH0 : hpH ν0 N0 w0 H0) (hH : hpH ν N w H) (hmv : Mv ν0 N0 H0 w0 ν N H w) (hr2 : rnOK ν N ν2 r2) (hN0 : N0 ≤ st) (hM : st < M)
    (gH : ∀ l, hget H' l = (g l).or (hget H0 l)) (sH : ∀ l, hst H' l = if (g l).isSome then st else hst H0 l) (tied : ∀ l o, g l = some o → Tied ν w H r2 ν2 l o ∧ (o = .gone ∨ ownOb o = true))
    (same : ∀ l c, l < N0 → rget r2 l = some c → ν2.blk l = ν0.blk l ∧ ν2.sv l = ν0.sv l) (keys : ∀ l c, rget r2 l = some c → l < M) (glt : ∀ l o, g l = some o → l < M)
    (apart : ∀ l l' o o', l ≠ l' → g l = some o → g l' = some o' → ∀ t, (rget r2 l).bind tgt = some t → (rget r2 l').bind tgt = some t → o = .gone ∨ o' = .gone ∨ (ownOb o = false ∧ ownOb o' = false))
    (tgts : ∀ l o t, g l = some o → ownOb o = true → (rget r2 l).bind tgt = some t → hget H0 t = none ∨ (g t).isSome = true) (stK : ∀ l o, g l = none → hget H0 l = some o → hst H l = hst H0 l) :
    ∃ ν', agree N0 ν0 ν' ∧ RExt r2 ν2 r2 ν' ∧ hpH ν' M w H' ∧ Mv ν0 N0 H0 w0 ν' M H' w := by
  let ν' : Nu := ⟨fun l => if l < N0 then ν0.blk l else ν2.blk l, fun l => if l < N0 then ν0.sv l else ν2.sv l, fun l b => match g l with
    | some o => fpF ν ν2 r2 l b o
    | none => ν0.fp l b⟩
  have agN : agree N0 ν0 ν' := fun l hl => by simp [ν', hl]
  have ex : RExt r2 ν2 r2 ν' := ⟨fun _ _ h => h, fun l c hl => by
    by_cases h : l < N0
    · obtain ⟨h1, h2⟩ := same l c h hl
      simp [ν', h, h1, h2]
    · simp [ν', h]⟩
  have fps : ∀ l o, g l = some o → ∀ b, ν'.fp l b = fpF ν ν2 r2 l b o := fun l o hl b => by simp [ν', hl]
  have fpn : ∀ l, g l = none → ν'.fp l = ν0.fp l := fun l hl => by funext b; simp [ν', hl]
  have fpOof : ∀ (ν0 : Nu) m om b, ownOb om = true → ν0.fp m b → fpO ν0 m om b := fun ν0 m om b h hb => by cases om <;> first | exact hb | cases h
  have fpOwn : ∀ (ν0 : Nu) m om b, fpO ν0 m om b → ν0.fp m b := fun ν0 m om b h => by cases om <;> first | exact h | exact h.elim
  have getK : ∀ l o, g l = none → hget H' l = some o → hget H0 l = some o := fun l o h1 h3 => by
    rw [gH, h1] at h3
    exact h3
  have ownG : ∀ l o b, g l = some o → fpO ν' l o b → ownOb o = true := fun l o b hl hb => by
    rcases (tied l o hl).2 with rfl | h
    · exact hb.elim
    · exact h
  have ownB : ∀ l o, g l = some o → ownOb o = true → ∀ b, ν'.fp l b → ∃ m om, (rget r2 l).bind tgt = some m ∧ hget H m = some om ∧ ownOb om = true ∧ ν.fp m b := fun l o hl ho b hb => by
    rw [fps l o hl] at hb
    obtain ⟨m, om, q1, q2, q3, q4⟩ := tied_fp hH hr2 (tied l o hl).1 hb
    exact ⟨m, om, q1, q2, q4 ho, fpOwn _ _ _ _ q3⟩
  have notK : ∀ l o, g l = some o → ownOb o = true → ∀ b, ν'.fp l b → ∀ m0 om0, hget H0 m0 = some om0 → ownOb om0 = true → ν0.fp m0 b → ¬ g m0 = none := by
    intro l o hl ho b hb m0 om0 hm0 ho0 hb0 k1
    obtain ⟨m, om, q1, q2, q3, q4⟩ := ownB l o hl ho b hb
    obtain ⟨p1, p2, _⟩ := hmv.kp m0 om0 hm0 (stK m0 om0 k1 hm0)
    have : m = m0 := Classical.byContradiction fun hne => hH.ap m m0 om om0 hne q2 p1 (.inl q3) b (fpOof _ _ _ _ q3 q4) (fpOof _ _ _ _ ho0 (by rw [p2]; exact hb0))
    subst this
    rcases tgts l o m hl ho q1 with h | h
    · rw [h] at hm0; cases hm0
    · rw [k1] at h; cases h
  have hstlt : ∀ l o, hget H' l = some o → hst H' l < M := fun l o hl => by
    rw [sH]
    split
    · omega
    · rename_i h1
      have := hH0.st l o (getK l o (by simpa using h1) hl)
      omega
  refine ⟨ν', agN, ex, ?_, ⟨hmv.go, ?_, agN, by omega, ?_, ?_⟩⟩
  · refine hpH_upd hH0 (fun l => g l = none) hstlt (by omega) agN hmv.go.size ?_ ?_ ?_ ?_ ?_
    · exact fun l o hk hl => ⟨getK l o hk hl, fpn l hk⟩
    · exact fun l o hk hl b hb => (hmv.kp l o hl (stK l o hk hl)).2.2 b hb
    · intro l o hk hl
      cases hgl : g l with
      | some o' =>
        rw [gH, hgl] at hl
        cases hl
        exact ⟨glt l o hgl, close_ob hH hr2 (tied l o hgl).1 ex keys (fps l o hgl)⟩
      | none => exact absurd hgl hk
    · intro l o hk hl b hb
      cases hgl : g l with
      | some o' =>
        rw [gH, hgl] at hl
        cases hl
        have ho := ownG l o b hgl hb
        have hb := fpOwn _ _ _ _ hb
        obtain ⟨m, om, q1, q2, q3, q4⟩ := ownB l o hgl ho b hb
        rcases hmv.own b ⟨m, om, q2, q3, q4⟩ with ⟨m0, om0, p1, p2, p3⟩ | hge
        · exact .inr ⟨m0, om0, notK l o hgl ho b hb m0 om0 p1 p2 p3, p1, p2, fpOof _ _ _ _ p2 p3⟩
        · exact .inl hge
      | none => exact absurd hgl hk
    · intro l l' o o' hne hk hk' hl hl' _ b hb hb'
      cases hgl : g l with
      | none => exact absurd hgl hk
      | some p =>
        cases hgl' : g l' with
        | none => exact absurd hgl' hk'
        | some p' =>
          rw [gH, hgl] at hl
          cases hl
          rw [gH, hgl'] at hl'
          cases hl'
          have ho := ownG l _ b hgl hb
          have ho' := ownG l' _ b hgl' hb'
          obtain ⟨m, om, q1, q2, q3, q4⟩ := ownB l _ hgl ho b (fpOwn _ _ _ _ hb)
          obtain ⟨m', om', q1', q2', q3', q4'⟩ := ownB l' _ hgl' ho' b (fpOwn _ _ _ _ hb')
          by_cases e : m = m'
          · subst e
            rcases apart l l' _ _ hne hgl hgl' m q1 q1' with h | h | h
            · rw [h] at ho; cases ho
            · rw [h] at ho'; cases ho'
            · rw [h.1] at ho; cases ho
          · exact hH.ap m m' om om' e q2 q2' (.inl q3) b (fpOof _ _ _ _ q3 q4) (fpOof _ _ _ _ q3' q4')
  · rintro b ⟨l, o, hl, ho, hb⟩
    cases hgl : g l with
    | some p =>
      rw [gH, hgl] at hl
      cases hl
      obtain ⟨m, om, q1, q2, q3, q4⟩ := ownB l _ hgl ho b hb
      exact hmv.own b ⟨m, om, q2, q3, q4⟩
    | none =>
      rw [fpn l hgl] at hb
      exact .inl ⟨l, o, getK l o hgl hl, ho, hb⟩
  · intro l o hl he
    have hlt := hH0.st l o hl
    rw [sH] at he
    cases hgl : g l with
    | some p => rw [hgl] at he; simp at he; omega
    | none => exact ⟨by rw [gH, hgl]; exact hl, fpn l hgl, (hmv.kp l o hl (stK l o hgl hl)).2.2⟩
  · intro l
    rw [sH]
    split
    · exact .inr hN0
    · exact .inl rfl
theorem anyOut_one {X : Type} {x : X} {h : List Ob} {r : R} {H : Hp} : ∀ {os : List (Outc X)}, anyOut x h r H os → ∃ o ∈ os, anyOut.one x h r H o
  | [], h => h.elim
  | [o], h => ⟨o, by simp, h⟩
  | o :: p :: os, h => by
    rcases h with h | h
    · exact ⟨o, by simp, h⟩
    · obtain ⟨q, h1, h2⟩ := anyOut_one (os := p :: os) h
      exact ⟨q, List.mem_cons_of_mem _ h1, h2⟩
theorem enum_fst_mem {α : Type} : ∀ {xs : List α} {n l : Nat}, l ∈ (enum n xs).map (·.1) ↔ n ≤ l ∧ l < n + xs.length
  | [], n, l => by simp [enum]
  | x :: xs, n, l => by
    simp only [enum, List.map_cons, List.mem_cons, enum_fst_mem, List.length_cons]
    omega
theorem og_isSome {fs : List (Nat × Ob)} {l : Nat} : (og fs l).isSome = true ↔ l ∈ fs.map (·.1) := by
  induction fs with
  | nil => simp [og]
  | cons q fs ih =>
    obtain ⟨m, o⟩ := q
    simp only [og, List.map_cons, List.mem_cons]
    by_cases h : m = l
    · simp [h]
    · have h' : ¬ l = m := fun e => h e.symm
      simp only [h, if_false, ih, h', false_or]
theorem end_at {X : Type} {x : X} {hs : List Ob} {res : R} {ν0 ν : Nu} {N : Nat} {H : Hp} {w0 w : World} {v : Value} (hH0 : hpH ν0 hs.length w0 (heap0 hs)) (hH : hpH ν N w H) (hmv : Mv ν0 hs.length (heap0 hs) w0 ν N H w) (hres : relR ν N res v) {os : List (Outc X)} (h : anyOut x hs res H os) :
    ∃ oc, oc ∈ os ∧ Ends x ν0 w0 hs v w oc := by
  obtain ⟨oc, hoc, y, hpost, h⟩ := anyOut_one h
  refine ⟨oc, hoc, y, hpost, ?_⟩
  have lt0 : ∀ l, l ∈ (enum 0 hs).map (·.1) ↔ l < hs.length := fun l => by rw [enum_fst_mem]; omega
  have hr0 : rnOK ν N ν (idR ((enum 0 hs).map (·.1)) (heap0 hs)) := by
    have h0 : rnOK ν0 hs.length ν0 (idR ((enum 0 hs).map (·.1)) (heap0 hs)) := rnOK_idR hH0 fun l hl => (lt0 l).1 hl
    intro l c hc
    have h1 := h0 l c hc
    obtain ⟨hl, hc'⟩ := rget_idR hc
    have hlt := (lt0 l).1 hl
    obtain ⟨a1, a2⟩ := hmv.ag l hlt
    have hle := hmv.le
    unfold idA at hc'
    split at hc'
    · subst hc'
      rw [a2]
      exact relA_mono hmv.ag hle h1
    · subst hc'
      rw [a2]
      exact relA_mono hmv.ag hle h1
    · subst hc'
      exact ⟨rfl, by omega, rfl⟩
  obtain ⟨r1, ν1, h1, hr1, e1, f1⟩ := mtR_sound hr0 hres h
  obtain ⟨r2, ν2, h2, hr2, e2, t2⟩ := mtHp_sound hH hr1 h1
  unfold ifB at h2
  split at h2
  rotate_left
  · exact h2.elim
  rename_i hc
  simp only [Bool.and_eq_true] at hc
  obtain ⟨hap, hkept, hout, hnewT, hkeys⟩ := hc
  have hkeys : ∀ l c, rget r2 l = some c → l < hs.length + oc.nn := fun l c hl => by
    have := (List.all_eq_true.1 hkeys) _ (rget_mem hl)
    rw [blt_if] at this
    simpa using this
  have e02 := e1.trans e2
  have okO : ∀ l o, og (oc.out x y) l = some o → o = .gone ∨ ownOb o = true := by
    intro l o h
    have h2 := (List.all_eq_true.1 hout) _ (og_mem h)
    simp only [Bool.and_eq_true] at h2
    cases o <;> first | exact .inl rfl | exact .inr h2.1
  have tself : ∀ l, l < hs.length → (rget r2 l).bind tgt = some l := fun l hl => by
    obtain ⟨c, hc1, hc2⟩ := idR_has (H := heap0 hs) ((lt0 l).2 hl)
    rw [e02.mono l c hc1]
    exact hc2
  have hnewT : ∀ l o, og (oc.out x y) l = some o → l < hs.length + oc.nn ∧ (l < hs.length ∨ ∀ t, (rget r2 l).bind tgt = some t → hs.length ≤ t ∨ (og (oc.out x y) t).isSome = true) := fun l o hl => by
    have h3 := (List.all_eq_true.1 hnewT) _ (og_mem hl)
    simp only [Bool.and_eq_true, Bool.or_eq_true, blt_if, decide_eq_true_eq] at h3
    refine ⟨h3.1, h3.2.imp id fun h4 t ht => ?_⟩
    rw [ht] at h4
    simp only [Bool.or_eq_true, List.any_eq_true] at h4
    rcases h4 with h4 | ⟨p, hp, he⟩
    · exact .inl (Nat.le_of_ble_eq_true h4)
    · refine .inr (og_isSome.2 (List.mem_map.2 ⟨p, hp, Nat.eq_of_beq_eq_true he⟩))
  have hget0 : ∀ t, hs.length ≤ t → hget (heap0 hs) t = none := fun t ht => by rw [hget_heap0, List.getElem?_eq_none ht]
  obtain ⟨ν', a1, a2, a3, a4⟩ := recast (st := hs.length) (M := hs.length + oc.nn + 1) (g := og (oc.out x y)) (H' := outF hs.length (heap0 hs) (oc.out x y)) hH0 hH hmv hr2 (Nat.le_refl _) (by omega) (fun l => hget_outF _ _ _ _) (fun l => hst_outF _ _ _ _)
    (fun l o hl => ⟨t2 (l, o) (og_mem hl), okO l o hl⟩)
    (fun l c hlt hl => by
      obtain ⟨c', hc', _⟩ := idR_has (H := heap0 hs) ((lt0 l).2 hlt)
      obtain ⟨s1, s2⟩ := e02.same l c' hc'
      obtain ⟨s3, s4⟩ := hmv.ag l hlt
      exact ⟨s1.trans s3, s2.trans s4⟩)
    (fun l c hl => by have := hkeys l c hl; omega) (fun l o hl => by have := (hnewT l o hl).1; omega)
    (fun l l' o o' hne hl hl' t ht ht' => apartR_ne hap (l, o) (l', o') (og_mem hl) (og_mem hl') hne t ht ht')
    (fun l o t hl ho ht => by
      rcases (hnewT l o hl).2 with h | h
      · rw [tself l h] at ht
        cases ht
        exact .inr (by rw [hl]; rfl)
      · exact (h t ht).imp (hget0 t) id)
    (fun l o hl hg => keptH_get hkept hg fun hm => by have := og_isSome.2 hm; rw [hl] at this; cases this)
  exact ⟨hout, ν', f1.ext e2 r2 ν' _ a2 (fun l c hl => by have := hkeys l c hl; omega), a3, a4⟩
end
end Sx

set_option linter.all false
namespace Sx
open Go
section
variable {P : Program} {T : FuncId → Option Con} {inl : FuncId → List V → Hp → Nat → (R → Hp → Nat → Prop) → Prop} {Lp : Nat → Lan} {ν : Nu} {N : Nat} {w : World} {H : Hp}
def resV (tmps : Array Value) : ResultVar → Sem Value
  | .tmp t => pure (tmps.getD t undef)
  | .cell a t => do loadVar t (← asAddr (tmps.getD a undef))
theorem results_eq (fn : Func) (tmps : Array Value) : results fn tmps = (do
    let vs ← fn.results.mapM (resV tmps)
    pure (if h : vs.size = 1 then vs[0] else .tuple vs)) := by
  unfold results
  congr 1
theorem load_cell {t : TypeId} {x r : R} {u : Value} (hH : hpH ν N w H) (hx : relR ν N x u) (h : (load P H t x).Out r) : ∃ z, relR ν N r z ∧ (do loadVar t (← asAddr u) : Sem Value).run P w = .ok z w := by
  obtain ⟨z, h1, h2⟩ := load_sound hH hx h
  refine ⟨z, h1, ?_⟩
  have : ∃ a, u = .pointer (some a) := by
    unfold load at h
    split at h
    · exact ⟨_, hx.2⟩
    · obtain ⟨_, _, _, _, _, _, _, h⟩ := hx; exact ⟨_, h⟩
    · exact h.elim
  obtain ⟨a, rfl⟩ := this
  simpa [Instr.loadAt, Instr.sureAddr, asAddr] using h2
theorem resGo_sound {σ : St} {tmps : Array Value} (ht : relT ν N σ.tmps tmps) (hH : hpH ν N w σ.H) {fn : Func} {K : R → Prop} : ∀ {rs : List ResultVar} {acc : List V} {us : List Value}, relVs ν N acc us → resOf.go P σ rs acc K →
    ∃ vs xs, (rs.mapM (resV tmps)).run P w = .ok vs w ∧ vs.length = rs.length ∧ relVs ν N xs (us ++ vs) ∧ K (.tup xs)
  | [], acc, us, ha, h => ⟨[], acc, by simp, rfl, by simpa using ha, h⟩
  | .tmp t :: rs, acc, us, ha, h => by
    simp only [resOf.go] at h
    split at h
    · rename_i v hv
      have hx := ht.2 t
      rw [hv] at hx
      obtain ⟨vs, xs, h1, h2, h3, h4⟩ := resGo_sound ht hH (fn := fn) (relVs_app ha (ys := [v]) (vs := [tmps.getD t undef]) ⟨hx, trivial⟩) h
      exact ⟨tmps.getD t undef :: vs, xs, by simp [List.mapM_cons, resV, h1], by simp [h2], by simpa using h3, h4⟩
    · exact h.elim
  | .cell t ty :: rs, acc, us, ha, h => by
    simp only [resOf.go] at h
    obtain ⟨r, hr1, hr2⟩ := Fl.holds_out h
    obtain ⟨z, hz1, hz2⟩ := load_cell hH (ht.2 t) hr1
    split at hr2
    · rename_i v
      obtain ⟨vs, xs, h1, h2, h3, h4⟩ := resGo_sound ht hH (fn := fn) (relVs_app ha (ys := [v]) (vs := [z]) ⟨hz1, trivial⟩) hr2
      exact ⟨z :: vs, xs, by simp only [List.mapM_cons, resV, Sem.run_bind, hz2]; simp [h1], by simp [h2], by simpa using h3, h4⟩
    · exact hr2.elim
theorem resOf_sound {σ : St} {tmps : Array Value} (ht : relT ν N σ.tmps tmps) (hH : hpH ν N w σ.H) {fn : Func} {K : R → Prop} (h : resOf P fn σ K) : ∃ v r, (results fn tmps).run P w = .ok v w ∧ relR ν N r v ∧ K r := by
  rw [results_eq]
  unfold resOf at h
  split at h
  · rename_i t he
    have he : fn.results = #[.tmp t] := by rw [← Array.toList_inj]; simpa using he
    exact ⟨_, _, by simp [he, resV], ht.2 t, h⟩
  · rename_i t ty he
    have he : fn.results = #[.cell t ty] := by rw [← Array.toList_inj]; simpa using he
    obtain ⟨r, hr1, hr2⟩ := Fl.holds_out h
    obtain ⟨z, hz1, hz2⟩ := load_cell hH (ht.2 t) hr1
    have hm : ([ResultVar.cell t ty].mapM (resV tmps)).run P w = .ok [z] w := by
      have hz3 : (resV tmps (.cell t ty)).run P w = .ok z w := hz2
      rw [List.mapM_cons, Sem.run_bind, hz3]
      simp
    refine ⟨z, r, ?_, hz1, hr2⟩
    rw [he, Array.mapM_eq_mapM_toList]
    simp only [Sem.run_bind, Sem.run_map, hm]
    simp
  · rename_i rs hn1 hn2
    obtain ⟨vs, xs, h1, h2, h3, h4⟩ := resGo_sound ht hH (fn := fn) (acc := []) (us := []) trivial h
    refine ⟨.tuple vs.toArray, .tup xs, ?_, ⟨_, rfl, by simpa using h3⟩, h4⟩
    have hne : ¬ vs.length = 1 := by
      intro e
      rw [h2] at e
      obtain ⟨x, hx⟩ := List.length_eq_one_iff.1 e
      cases x with
      | tmp t => exact hn1 t hx
      | cell t ty => exact hn2 t ty hx
    simp [Array.mapM_eq_mapM_toList, h1, hne]
theorem relT_start {fn : Func} {args : List V} {vs : List Value} (h : relVs ν N args vs) : relT ν N (startT fn args) (vs.toArray ++ Array.replicate (fn.ntmps - vs.toArray.size) undef) := by
  have hl : ∀ {asq : List V} {us : List Value}, relVs ν N asq us → asq.length = us.length ∧ ∀ i, relR ν N ((asq.map R.v).getD i .junk) (us.getD i undef) := by
    intro asq
    induction asq with
    | nil => intro us h; cases us with
      | nil => exact ⟨rfl, fun i => by simp [List.getD_eq_getElem?_getD]; exact relR_junk _⟩
      | cons u us => exact h.elim
    | cons a asq ih => intro us h; cases us with
      | nil => exact h.elim
      | cons u us =>
        obtain ⟨h1, h2⟩ := ih h.2
        refine ⟨by simp [h1], fun i => ?_⟩
        cases i with
        | zero => exact h.1
        | succ i => simpa using h2 i
  obtain ⟨h1, h2⟩ := hl h
  refine ⟨by simp [startT, h1], fun i => ?_⟩
  by_cases hi : i < vs.length
  · have := h2 i
    have hi' : i < args.length := by omega
    have e1 : (startT fn args).getD i .junk = (args.map R.v).getD i .junk := by
      simp only [startT, List.getD_eq_getElem?_getD]
      rw [List.getElem?_append_left (by simpa using hi')]
    have e2 : (vs.toArray ++ Array.replicate (fn.ntmps - vs.toArray.size) undef).getD i undef = vs.getD i undef := by
      simp only [Array.getD_eq_getD_getElem?, List.getD_eq_getElem?_getD]
      rw [Array.getElem?_append_left (by simpa using hi)]
      simp
    rw [e1, e2]
    exact this
  · have e1 : (startT fn args).getD i .junk = .junk := by
      simp only [startT, List.getD_eq_getElem?_getD]
      rw [List.getElem?_append_right (by simp; omega)]
      simp only [List.getElem?_replicate]
      split <;> rfl
    rw [e1]
    exact relR_junk _
theorem bodyK_sound (hM : P.follows .mixedOrders = true) (hT : ∀ f S, T f = some S → Good P f S) (hI : InlOK P inl) {f : FuncId} {fn : Func} (hf : P.funcs[f]? = some fn) {args : List V} {nx : Nat} {K : R → Hp → Nat → Prop} (h : bodyK P T inl Lp fn args H nx K)
    {vs : List Value} (hv : relVs ν nx args vs) (hH : hpH ν nx w H) : Calls P f vs.toArray w fun e w' => ∃ v, e = .returned v ∧ Goes ν nx H w K v w' := by
  unfold bodyK at h
  split at h
  · rename_i b hb
    refine calls_of_wp hf hb (wp_mono (vc_sound hM hT hI b (ν := ν) (w := w) (a := { tmps := vs.toArray ++ Array.replicate (fn.ntmps - vs.toArray.size) undef, defers := [] }) ⟨relT_start hv, rfl, hH⟩ h) ?_)
    have fin : ∀ (a' : Act) (w' : World) (ν' : Nu) (σ' : St), At ν' σ' a' w' → Mv ν nx H w ν' σ'.nx σ'.H w' → resOf P fn σ' (fun r => K r σ'.H σ'.nx) → a'.defers = [] ∧ ∃ v, (results fn a'.tmps).run P w' = .ok v w' ∧ (∃ v', Ending.returned v = Ending.returned v' ∧ Goes ν nx H w K v' w') := by
      intro a' w' ν' σ' hA hm hr
      obtain ⟨v, r, h1, h2, h3⟩ := resOf_sound hA.1 hA.2.2 hr
      exact ⟨hA.2.1, v, h1, v, rfl, ν', σ'.nx, σ'.H, r, h2, hA.2.2, hm, h3⟩
    rintro e a' w' ⟨e', he, ν', σ', hA, hm, hk, hq⟩
    cases e' with
    | n =>
      cases e <;> first | exact he.elim | skip
      exact fin a' w' ν' σ' hA hm hq
    | r =>
      cases e <;> first | exact he.elim | skip
      exact fin a' w' ν' σ' hA hm hq
    | x i => exact hq.elim
  · exact h.elim
def Plain (P : Program) : Prop := ∀ (f : FuncId) (fn : Func), P.funcs[f]? = some fn → (fn.name == "runtime.NumGoroutine") = false
theorem inlN_ok (hM : P.follows .mixedOrders = true) (hP : Plain P) (hT : ∀ f S, T f = some S → Good P f S) (Lq : FuncId → Nat → Lan) : ∀ n, InlOK P (inlN P T Lq n)
  | 0 => fun f args H nx K h => h.elim
  | n + 1 => fun f args H nx K h => by
    unfold inlN at h
    split at h
    · rename_i fn hf
      refine ⟨?_, fun ν w vs hv hH => bodyK_sound hM hT (inlN_ok hM hP hT Lq n) hf h hv hH⟩
      unfold bodyK at h
      split at h
      · rename_i b hb
        exact ⟨fn, b, hf, hP f fn hf, hb⟩
      · exact h.elim
    · exact h.elim
theorem good_of_owes (hM : P.follows .mixedOrders = true) (hP : Plain P) (hT : ∀ f S, T f = some S → Good P f S) {Lq : FuncId → Nat → Lan} {n : Nat} {f : FuncId} {fn : Func} {b : Code} (hf : P.funcs[f]? = some fn) (hb : fn.body = some b) {S : Con} (h : owes P T Lq n f fn S) : Good P f S := by
  refine ⟨⟨fn, b, hf, hP f fn hf, hb⟩, fun x hx ν w args hv hH => ?_⟩
  refine Calls.mono (bodyK_sound hM hT (inlN_ok hM hP hT Lq n) hf (h x hx) hv hH) ?_
  rintro e w' ⟨v, rfl, ν', N', H', r, hr, hH', hm, hend⟩
  obtain ⟨oc, h1, h2⟩ := end_at hH hH' hm hr hend
  exact ⟨v, rfl, oc, h1, h2⟩
end
end Sx

set_option linter.all false
namespace Sx
open Go
def tab : List (Nat × Con) → FuncId → Option Con
  | [], _ => none
  | (g, S) :: r, f => match Nat.beq g f with
    | true => some S
    | false => tab r f
def Goods (P : Program) (L : List (Nat × Con)) : Prop := ∀ f S, tab L f = some S → Good P f S
theorem goods_nil (P : Program) : Goods P [] := fun f S h => by cases h
theorem goods_cons {P : Program} {L : List (Nat × Con)} {f : Nat} {S : Con} (h : Good P f S) (hL : Goods P L) : Goods P ((f, S) :: L) := by
  intro g S' hg
  simp only [tab] at hg
  split at hg
  · rename_i hb
    have := Nat.eq_of_beq_eq_true hb
    subst this
    cases hg
    exact h
  · exact hL g S' hg
@[reducible] def Con.pure (X : Type) (args : X → List V) (pre : X → Prop) (res : X → R) : Con := { X := X, args := args, heap := fun _ => [], pre := pre, outs := [{ Y := Unit, post := fun _ _ => True, res := fun x _ => res x, out := fun _ _ => [], nn := 0 }] }
/-! ### a law's arguments: rows that are read -/
def RoOK (w : World) (v : Value) (o : Ob) : Prop := ∃ ks xs base cap, o = .row false ks xs ∧ 0 < ks.length ∧ wfT ks xs ∧ v = .slice base xs.length cap ∧ okSl base xs.length cap ∧ ∀ j u, (flat ks xs)[j]? = some u → ∃ a, base = some a ∧ w.cell? (a.add j) = some u
def roNu (vs : List (Value × Ob)) : Nu := ⟨fun _ => 0, fun l => (vs.map (·.1)).getD l undef, fun l b => match vs[l]? with
  | some (v, Ob.row _ _ xs) => v.ownBlock = some b ∧ xs ≠ []
  | _ => False⟩
theorem ro_heap {w : World} {vs : List (Value × Ob)} (h : ∀ q ∈ vs, RoOK w q.1 q.2) : hpH (roNu vs) (vs.map (·.2)).length w (heap0 (vs.map (·.2))) := by
  have at_ : ∀ l o, hget (heap0 (vs.map (·.2))) l = some o → ∃ v, vs[l]? = some (v, o) := by
    intro l o hl
    rw [hget_heap0] at hl
    simp only [List.getElem?_map, Option.map_eq_some_iff] at hl
    obtain ⟨⟨v, o'⟩, h1, rfl⟩ := hl
    exact ⟨v, h1⟩
  refine ⟨fun l o hl => ?_, fun l o hl => ?_, fun l l' o o' hne hl hl' hown => ?_⟩
  · obtain ⟨v, hv⟩ := at_ l o hl
    have hlt : l < vs.length := (List.getElem?_eq_some_iff.1 hv).1
    refine ⟨by simpa using hlt, ?_⟩
    obtain ⟨ks, xs, base, cap, ho, h1, h2, h3, h4, h5⟩ := h _ (List.mem_of_getElem? hv)
    have ho : o = .row false ks xs := ho
    subst ho
    have h3 : v = .slice base xs.length cap := h3
    have hs : (roNu vs).sv l = v := by simp [roNu, hv]
    exact ⟨h1, h2, fun b => by rw [hs]; simp [roNu, hv], base, cap, by rw [hs]; exact h3, h4, h5⟩
  · rw [hst_heap0]
    obtain ⟨v, hv⟩ := at_ l o hl
    have hlt : l < vs.length := (List.getElem?_eq_some_iff.1 hv).1
    simp only [List.length_map]
    omega
  · obtain ⟨v, hv⟩ := at_ l o hl
    obtain ⟨v', hv'⟩ := at_ l' o' hl'
    obtain ⟨_, _, _, _, ho, _⟩ := h _ (List.mem_of_getElem? hv)
    obtain ⟨_, _, _, _, ho', _⟩ := h _ (List.mem_of_getElem? hv')
    have ho : o = _ := ho
    have ho' : o' = _ := ho'
    rw [ho, ho'] at hown
    simp [ownOb] at hown
theorem ro_arg {w : World} {vs : List (Value × Ob)} {l : Nat} {v : Value} {ks : List Kd} {xs : List (Tup ks)} (h : RoOK w v (.row false ks xs)) (hl : vs[l]? = some (v, .row false ks xs)) : relV (roNu vs) (vs.map (·.2)).length (.one (.f l xs.length)) v := by
  have hlt : l < vs.length := (List.getElem?_eq_some_iff.1 hl).1
  obtain ⟨ks', xs', base, cap, ho, h1, h2, h3, h4, h5⟩ := h
  cases ho
  have hs : (roNu vs).sv l = v := by simp [roNu, hl]
  exact ⟨by simpa using hlt, hs.symm, base, cap, by rw [hs]; exact h3, h4⟩
theorem Good.law {P : Program} {f : FuncId} {S : Con} (hg : Good P f S) (x : S.X) (hx : S.pre x) {w : World} {args : Array Value} {vs : List (Value × Ob)} (hvs : ∀ q ∈ vs, RoOK w q.1 q.2) (hh : S.heap x = vs.map (·.2)) (hv : relVs (roNu vs) (S.heap x).length (S.args x) args.toList)
    (hres : ∀ oc ∈ S.outs, ∀ y, oc.post x y → oc.res x y = .b true) : Calls P f args w fun e w' => e = .returned (.bool true) ∧ Go.RowKit.Below w.heap.size w w' := by
  have hH : hpH (roNu vs) (S.heap x).length w (heap0 (S.heap x)) := by rw [hh]; exact ro_heap hvs
  have := hg.2 x hx (roNu vs) w args.toList hv hH
  rw [show args.toList.toArray = args by simp] at this
  refine Calls.mono this ?_
  rintro e w' ⟨v, rfl, oc, hoc, y, hy, _, ν', hr, _, hm⟩
  rw [hres oc hoc y hy] at hr
  have hv : v = .bool true := hr.2
  refine ⟨by rw [hv], ⟨hm.go.os, hm.go.tape, hm.go.output, hm.go.size, fun k hk => hm.go.block k hk ?_⟩⟩
  rintro ⟨l, o, hl, ho, _⟩
  rw [hh, hget_heap0] at hl
  simp only [List.getElem?_map, Option.map_eq_some_iff] at hl
  obtain ⟨⟨v', o'⟩, h1, rfl⟩ := hl
  obtain ⟨_, _, _, _, ho', _⟩ := hvs _ (List.mem_of_getElem? h1)
  have ho' : o' = _ := ho'
  rw [ho'] at ho
  cases ho
theorem good_as {P : Program} {f : FuncId} {S S' : Con} (hg : Good P f S) (h : ∀ x' : S'.X, S'.pre x' → ∃ x : S.X, S.pre x ∧ S.args x = S'.args x' ∧ S.heap x = S'.heap x' ∧
    ∀ oc ∈ S.outs, ∃ oc' ∈ S'.outs, oc.nn = oc'.nn ∧ ∀ y, oc.post x y → ∃ y', oc'.post x' y' ∧ oc.res x y = oc'.res x' y' ∧ oc.out x y = oc'.out x' y') : Good P f S' := by
  refine ⟨hg.1, fun x' hx' ν w args hv hH => ?_⟩
  obtain ⟨x, h1, h2, h3, h4⟩ := h x' hx'
  rw [← h2, ← h3] at hv
  rw [← h3] at hH
  refine Calls.mono (hg.2 x h1 ν w args hv hH) ?_
  rintro e w' ⟨v, rfl, oc, hoc, y, hy, hrest⟩
  obtain ⟨oc', m', nn, h5⟩ := h4 oc hoc
  obtain ⟨y', p1, p2, p3⟩ := h5 y hy
  refine ⟨v, rfl, oc', m', y', p1, ?_⟩
  rw [← p2, ← p3, ← h3, ← nn]
  exact hrest
theorem good_pure {P : Program} {f : FuncId} {X X' : Type} {args : X → List V} {pre : X → Prop} {res : X → R} {args' : X' → List V} {pre' : X' → Prop} {res' : X' → R} (hg : Good P f (.pure X args pre res))
    (h : ∀ x', pre' x' → ∃ x, pre x ∧ args x = args' x' ∧ res x = res' x') : Good P f (.pure X' args' pre' res') := by
  refine good_as hg fun x' hx' => ?_
  obtain ⟨x, h1, h2, h3⟩ := h x' hx'
  refine ⟨x, h1, h2, rfl, fun oc hoc => ⟨_, List.mem_singleton.2 rfl, ?_⟩⟩
  cases List.mem_singleton.1 hoc
  exact ⟨rfl, fun y hy => ⟨(), trivial, h3, rfl⟩⟩
@[reducible] def Con.row1 (X : Type) (args : X → List V) (heap : X → List Ob) (n : Nat) (pre : X → Prop) (ks : List Kd) (out : X → List (Tup ks)) (res : X → A → R) : Con :=
  { X := X, args := args, heap := heap, pre := pre, outs := [{ Y := Unit, post := fun _ _ => True, res := fun x _ => res x (.f n (out x).length), out := fun x _ => [(n, .row true ks (out x))], nn := 1 }] }
@[reducible] def Con.look (X : Type) (args : X → List V) (heap : X → List Ob) (pre : X → Prop) (res : X → R) : Con := { X := X, args := args, heap := heap, pre := pre, outs := [{ Y := Unit, post := fun _ _ => True, res := fun x _ => res x, out := fun _ _ => [], nn := 0 }] }
theorem ifB_b {c : Bool} {A B : Prop} (h1 : c = true → A) (h2 : c = false → B) : ifB c A B := by cases c; exact h2 rfl; exact h1 rfl
theorem ifB_d {p : Prop} [Decidable p] {A B : Prop} (h1 : p → A) (h2 : ¬ p → B) : ifB (decide p) A B := ifB_b (fun h => h1 (of_decide_eq_true h)) fun h => h2 (of_decide_eq_false h)
theorem ifB_nd {p : Prop} [Decidable p] {A B : Prop} (h1 : ¬ p → A) (h2 : p → B) : ifB (!decide p) A B := ifB_b (fun h => h1 (by simpa using h)) fun h => h2 (by simpa using h)
theorem ifB_nn {p q : Prop} [Decidable p] [Decidable q] {A T : Prop} (hA : ¬ p → ¬ q → A) (hT : p ∨ q → T) : ifB (!decide p) (ifB (!decide q) A T) T := ifB_nd (fun h => ifB_nd (fun k => hA h k) fun k => hT (.inr k)) fun h => hT (.inl h)
theorem ifB_nno {p q : Prop} [Decidable p] [Decidable q] {O A T : Prop} (o : ¬ p → O) (hA : ¬ p → ¬ q → A) (hT : p ∨ q → T) : ifB (!decide p) (O ∧ ifB (!decide q) A T) T := ifB_nd (fun h => ⟨o h, ifB_nd (fun k => hA h k) fun k => hT (.inr k)⟩) fun h => hT (.inl h)
theorem and_self_of {A : Prop} (h : A) : A ∧ A := ⟨h, h⟩
theorem ifB_ne {p : Prop} [Decidable p] {A B : Prop} (h : p) (hB : B) : ifB (!decide p) A B := ifB_nd (fun k => absurd h k) fun _ => hB
theorem ifB_eq {p : Prop} [Decidable p] {A B : Prop} (h : p) (hA : A) : ifB (decide p) A B := ifB_d (fun _ => hA) fun k => absurd h k
theorem ifB_nb {c : Bool} {A B : Prop} (h : c = true) (hB : B) : ifB (!c) A B := by subst h; exact hB
theorem ifB_tb {c : Bool} {A B : Prop} (h : c = true) (hA : A) : ifB c A B := by subst h; exact hA
theorem ifB_fb {c : Bool} {A B : Prop} (h : c = false) (hB : B) : ifB c A B := by subst h; exact hB
end Sx
end
