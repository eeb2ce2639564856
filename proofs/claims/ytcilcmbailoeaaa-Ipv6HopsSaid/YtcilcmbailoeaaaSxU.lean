/- A symbolic walk: regions whose order is drawn. -/
import Derived.Test.YtcilcmbailoeaaaSxT
set_option linter.all false
namespace Sx
open Go
/-! ### which operations come before which -/
def Cl (ops : Array Oper) (S : Nat → Prop) : Prop := ∀ i o, ops[i]? = some o → S i → ∀ e ∈ edges o, S e
theorem fold_bit {acc : List Nat} {x : Nat} : ∀ {es : List Nat} {s : Nat}, (es.foldl (fun s e => s ||| (2 ^ e ||| acc.getD e 0)) s).testBit x = true → s.testBit x = true ∨ ∃ e ∈ es, x = e ∨ (acc.getD e 0).testBit x = true
  | [], s, h => .inl h
  | e :: es, s, h => by
    rcases fold_bit (es := es) h with h | ⟨e', h1, h2⟩
    · rw [Nat.testBit_or, Nat.testBit_or, Bool.or_eq_true, Bool.or_eq_true, Nat.testBit_two_pow] at h
      rcases h with h | h | h
      · exact .inl h
      · exact .inr ⟨e, by simp, .inl (by simpa using (of_decide_eq_true h).symm)⟩
      · exact .inr ⟨e, by simp, .inr h⟩
    · exact .inr ⟨e', by simp [h1], h2⟩
theorem masks_len : ∀ (os : List Oper) (acc : List Nat), (masks os acc).length = acc.length + os.length
  | [], acc => rfl
  | o :: os, acc => by simp [masks, masks_len os]; omega
theorem masks_old : ∀ (os : List Oper) (acc : List Nat) (y : Nat), y < acc.length → (masks os acc).getD y 0 = acc.getD y 0
  | [], acc, y, _ => rfl
  | o :: os, acc, y, h => by
    rw [masks, masks_old os _ y (by simp; omega)]
    simp [List.getD_eq_getElem?_getD, List.getElem?_append_left h]
theorem masks_gen : ∀ (os : List Oper) (acc : List Nat) (j : Nat) (o : Oper) (x : Nat), os[j]? = some o → ((masks os acc).getD (acc.length + j) 0).testBit x = true → ∃ e ∈ edges o, x = e ∨ (e < acc.length + j ∧ ((masks os acc).getD e 0).testBit x = true)
  | o' :: os, acc, 0, o, x, ho, h => by
    cases ho
    rw [masks, masks_old os _ _ (by simp)] at h
    simp only [Nat.add_zero, List.getD_eq_getElem?_getD, List.getElem?_append_right (Nat.le_refl _), Nat.sub_self, List.getElem?_cons_zero, Option.getD_some] at h
    rcases fold_bit h with h | ⟨e, h1, h2⟩
    · simp at h
    · refine ⟨e, h1, h2.imp id fun h2 => ?_⟩
      have hlt : e < acc.length := by
        rcases Nat.lt_or_ge e acc.length with h | h
        · exact h
        · simp [List.getElem?_eq_none h] at h2
      refine ⟨by omega, ?_⟩
      rw [masks, masks_old os _ _ (by simp; omega)]
      simpa [List.getD_eq_getElem?_getD, List.getElem?_append_left hlt] using h2
  | o' :: os, acc, j + 1, o, x, ho, h => by
    have := masks_gen os (acc ++ [(edges o').foldl (fun s e => s ||| (2 ^ e ||| acc.getD e 0)) 0]) j o x (by simpa using ho) (by simpa [masks, Nat.add_assoc, Nat.add_comm 1 j] using h)
    simpa [masks, Nat.add_assoc, Nat.add_comm 1 j] using this
  | [], _, _, _, _, ho, _ => by simp at ho
section
variable {ops : Array Oper}
theorem masks_spec {y x : Nat} (h : ((masks ops.toList []).getD y 0).testBit x = true) : ∃ o, ops[y]? = some o ∧ ∃ e ∈ edges o, x = e ∨ (e < y ∧ ((masks ops.toList []).getD e 0).testBit x = true) := by
  have hy : y < ops.size := by
    rcases Nat.lt_or_ge y ops.size with h' | h'
    · exact h'
    · have hl := masks_len ops.toList []
      rw [List.getD_eq_getElem?_getD, List.getElem?_eq_none (by rw [hl]; simpa using h')] at h
      simp at h
  obtain ⟨o, ho⟩ : ∃ o, ops[y]? = some o := ⟨_, Array.getElem?_eq_getElem hy⟩
  have := masks_gen ops.toList [] y o x (by simpa using ho) (by simpa using h)
  exact ⟨o, ho, by simpa using this⟩
theorem mask_in {S : Nat → Prop} (hS : Cl ops S) (y : Nat) {o : Oper} {x : Nat} (ho : ops[y]? = some o) (he : ∀ e ∈ edges o, S e) (h : ((masks ops.toList []).getD y 0).testBit x = true) : S x := by
  induction y using Nat.strongRecOn generalizing o with
  | _ y ih =>
    obtain ⟨o', ho', e, h1, h2⟩ := masks_spec h
    rw [ho] at ho'
    cases ho'
    rcases h2 with rfl | ⟨h2, h3⟩
    · exact he _ h1
    · obtain ⟨oe, hoe, _⟩ := masks_spec h3
      exact ih e h2 hoe (hS e oe hoe (he e h1)) h3
variable {P : Program}
theorem okReg_spec (h : okReg P ops = true) {x y : Nat} {ox oy : Oper} {d : Nat} (hx : ops[x]? = some ox) (hy : ops[y]? = some oy) (hd : ox.dst = some d) :
    (x = y → chainOp P ox.op = true ∨ d ∉ looks ops ox) ∧ (x ≠ y → d ∈ names ops oy → ((masks ops.toList []).getD y 0).testBit x = true ∨ (chainOp P ox.op = true ∧ (chainOp P oy.op = true ∨ ((masks ops.toList []).getD x 0).testBit y = true))) := by
  have h1 := (List.all_eq_true.1 h) (x, ox) (enum_mem.2 ⟨Nat.zero_le _, by simpa using hx⟩)
  simp only [hd] at h1
  have h2 := (List.all_eq_true.1 h1) (y, oy) (enum_mem.2 ⟨Nat.zero_le _, by simpa using hy⟩)
  refine ⟨fun e => ?_, fun e hn => ?_⟩
  · subst e
    simp only [show Nat.beq x x = true by simp] at h2
    simpa using h2
  · simp only [beq_no e] at h2
    simpa [hn] using h2
/-! ### guards -/
def gval (ops : Array Oper) (o : Oper) (tm : List R) : Option Bool := match o.guard with
  | none => some true
  | some (j, want) => match dstOf ops j with
    | some d => match tm.getD d .junk with
      | .v (.one (.l (.b c))) => some (c == want)
      | .tup [] => some false
      | _ => none
    | none => none
theorem set_same {tm : List R} {d : Nat} {r : R} (h : tm.getD d .junk = r) : tm.set d r = tm := by
  apply List.ext_getElem?
  intro i
  rw [List.getElem?_set]
  split
  · rename_i e
    subst e
    split
    · rename_i hl
      rw [← h, List.getD_eq_getElem?_getD, List.getElem?_eq_getElem hl]
      rfl
    · rename_i hl
      rw [List.getElem?_eq_none (by omega)]
  · rfl
theorem guardK_cases {o : Oper} {tm : List R} {yes no : List R → Prop} (h : guardK ops o.guard tm yes no) : (gval ops o tm = some true ∧ yes tm) ∨ (gval ops o tm = some false ∧ no tm) := by
  unfold guardK at h
  unfold gval
  split at h
  · rename_i hg
    rw [hg]
    exact .inl ⟨rfl, h⟩
  · rename_i j want hg
    rw [hg]
    simp only
    split at h
    · rename_i d hd
      rw [hd]
      simp only
      split at h
      · rename_i c hc
        rw [hc]
        simp only
        cases want <;> cases c <;> simp only [ifB] at h <;> rw [set_same hc] at h <;> simp [h]
      · rename_i hc
        rw [hc]
        exact .inr ⟨rfl, h⟩
      · exact h.elim
    · exact h.elim
theorem gval_congr {o : Oper} {tm tm' : List R} (h : ∀ t ∈ gtmp ops o, tm.getD t .junk = tm'.getD t .junk) : gval ops o tm = gval ops o tm' := by
  unfold gval
  cases hg : o.guard with
  | none => rfl
  | some g =>
    obtain ⟨j, want⟩ := g
    simp only
    cases hd : dstOf ops j with
    | none => rfl
    | some d => simp only; rw [h d (by simp [gtmp, hg, hd])]
theorem gval_sound {ν : Nu} {N : Nat} {o : Oper} {tm : List R} {ts : Array Value} {b : Bool} (ht : relT ν N tm ts) (h : gval ops o tm = some b) : Region.wanted o (yielded ops ts) = b := by
  unfold gval at h
  cases hg : o.guard with
  | none => rw [hg] at h; cases h; simp [Region.wanted, hg]
  | some g =>
    obtain ⟨j, want⟩ := g
    rw [hg] at h
    simp only at h
    split at h
    · rename_i d hd
      split at h
      · rename_i c hc
        have hv := relT_bool ht hc
        have hy : yielded ops ts j = some c := by
          have hd : (ops[j]?).bind (·.dst) = some d := hd
          unfold yielded
          rw [hd]
          simp [hv]
        cases h
        simp [Region.wanted, hg, hy]
      · rename_i hc
        cases h
        simp [Region.wanted, hg, relT_unit hd ht hc]
      · cases h
    · cases h
theorem ev_reads {op : Op} {tm tm' : List R} (h : ∀ t ∈ reads op, tm.getD t .junk = tm'.getD t .junk) : ∀ x ∈ op.operands, ev tm x = ev tm' x := by
  intro x hx
  cases x with
  | tmp t => exact h t (List.mem_filterMap.2 ⟨.tmp t, by simpa using hx, rfl⟩)
  | const v => rfl
  | func f => rfl
  | global g => rfl
open Classical in
/-- Some variables are not known. -/
noncomputable def blank (S : Nat → Prop) (tm : List R) : List R := (List.range tm.length).map fun t => if S t then .junk else tm.getD t .junk
theorem blank_len (S : Nat → Prop) (tm : List R) : (blank S tm).length = tm.length := by simp [blank]
theorem blank_no {S : Nat → Prop} {tm : List R} {t : Nat} (h : ¬ S t) : (blank S tm).getD t .junk = tm.getD t .junk := by
  by_cases hl : t < tm.length
  · simp [blank, List.getD_eq_getElem?_getD, List.getElem?_map, List.getElem?_range hl, h]
  · have : tm.length ≤ t := by omega
    simp [List.getD_eq_getElem?_getD, List.getElem?_eq_none this, List.getElem?_eq_none (show (blank S tm).length ≤ t by rw [blank_len]; exact this)]
theorem blank_yes {S : Nat → Prop} {tm : List R} {t : Nat} (h : S t) : (blank S tm).getD t .junk = .junk := by
  by_cases hl : t < tm.length
  · simp [blank, List.getD_eq_getElem?_getD, List.getElem?_map, List.getElem?_range hl, h]
  · simp [List.getD_eq_getElem?_getD, List.getElem?_eq_none (show (blank S tm).length ≤ t by rw [blank_len]; omega)]
def Isp (tm : List R) (d : Option Tmp) (r : R) : Prop := ∀ t, d = some t → tm.getD t .junk = r ∨ tm.getD t .junk = .junk
theorem isp_put (tm : List R) (d : Option Tmp) (r : R) : Isp (put tm d r) d r := by
  intro t ht
  subst ht
  by_cases hl : t < tm.length
  · exact .inl (by simp [put, List.getD_eq_getElem?_getD, List.getElem?_set, hl])
  · exact .inr (by simp [put, List.getD_eq_getElem?_getD, List.getElem?_set, hl])
theorem put_no {tm : List R} {d : Option Tmp} {r : R} {t : Nat} (h : d ≠ some t) : (put tm d r).getD t .junk = tm.getD t .junk := by
  cases d with
  | none => rfl
  | some d =>
    have : d ≠ t := fun e => h (by rw [e])
    simp [put, List.getD_eq_getElem?_getD, List.getElem?_set, this]
/-- A quiet operation that has been done ahead: what it will come to. -/
def Prom (P : Program) (ops : Array Oper) (σ : St) (o : Oper) : Prop := (gval ops o σ.tmps = some true ∧ ∃ r, (fl P σ.tmps σ.H o.op).Out r ∧ Isp σ.tmps o.dst r) ∨ (gval ops o σ.tmps = some false ∧ Isp σ.tmps o.dst .unit)
theorem heapOf_congr {op : Op} {tm tm' : List R} (h : ∀ x ∈ op.operands, ev tm x = ev tm' x) : heapOf tm op = heapOf tm' op := by
  cases op <;> simp only [heapOf] <;> simp only [Op.operands] at h <;> rw [h _ (by simp)]
theorem Prom.keep {σ σ' : St} {o : Oper} (h : Prom P ops σ o) (hn : ∀ t ∈ names ops o, σ'.tmps.getD t .junk = σ.tmps.getD t .junk) (hk : ∀ l ob, heapOf σ.tmps o.op = some l → hget σ.H l = some ob → hget σ'.H l = some ob) : Prom P ops σ' o := by
  have hl : ∀ t ∈ looks ops o, σ'.tmps.getD t .junk = σ.tmps.getD t .junk := fun t ht => hn t (by simp [names, ht])
  have hg : gval ops o σ'.tmps = gval ops o σ.tmps := gval_congr fun t ht => hl t (by simp [looks, ht])
  have he : ∀ x ∈ o.op.operands, ev σ'.tmps x = ev σ.tmps x := ev_reads fun t ht => hl t (by simp [looks, ht])
  have hi : ∀ {r}, Isp σ.tmps o.dst r → Isp σ'.tmps o.dst r := fun h t ht => by rw [hn t (by simp [names, ht])]; exact h t ht
  rcases h with ⟨h1, r, h2, h3⟩ | ⟨h1, h2⟩
  · exact .inl ⟨hg.trans h1, r, by rw [fl_congr he]; exact fl_heap h2 hk, hi h3⟩
  · exact .inr ⟨hg.trans h1, hi h2⟩
/-- Done ahead, eldest first: each is bound to what is listed and to elder ones. -/
def PE (ops : Array Oper) : (Nat → Prop) → List Nat → Prop
  | _, [] => True
  | L, i :: rest => (∀ o, ops[i]? = some o → ∀ e ∈ edges o, L e) ∧ PE ops (fun e => L e ∨ e = i) rest
theorem PE.mono : ∀ {is : List Nat} {L L' : Nat → Prop}, PE ops L is → (∀ e, L e → L' e) → PE ops L' is
  | [], _, _, _, _ => trivial
  | _ :: _, _, _, h, hs => ⟨fun o ho e he => hs e (h.1 o ho e he), h.2.mono fun e he => he.imp (hs e) id⟩
theorem PE.snoc : ∀ {is : List Nat} {L : Nat → Prop} {y : Nat}, PE ops L is → (∀ o, ops[y]? = some o → ∀ e ∈ edges o, L e ∨ e ∈ is) → PE ops L (is ++ [y])
  | [], L, y, _, h => ⟨fun o ho e he => by simpa using h o ho e he, trivial⟩
  | i :: is, L, y, hp, h => ⟨hp.1, PE.snoc hp.2 fun o ho e he => by
      rcases h o ho e he with h | h
      · exact .inl (.inl h)
      · rcases List.mem_cons.1 h with h | h
        · exact .inl (.inr h)
        · exact .inr h⟩
theorem PE.erase : ∀ {is : List Nat} {L : Nat → Prop} {i : Nat}, PE ops L is → PE ops (fun e => L e ∨ e = i) (is.filter (· != i))
  | [], _, _, _ => trivial
  | j :: is, L, i, h => by
    by_cases hj : j = i
    · subst hj
      have := PE.erase (i := j) h.2
      simp only [List.filter_cons, bne_self_eq_false, Bool.false_eq_true, if_false]
      exact this.mono fun e he => he.elim id .inr
    · have := PE.erase (i := i) h.2
      have hb : (j != i) = true := by simpa using hj
      simp only [List.filter_cons, hb, if_true]
      exact ⟨fun o ho e he => .inl (h.1 o ho e he), this.mono fun e he => by rcases he with (h | h) | h <;> simp [h]⟩
end
end Sx
