/- A symbolic walk: calls. -/
import Derived.Test.YtcilcmbailoeaaaSxP
set_option linter.all false
namespace Sx
open Go
def og : List (Nat × Ob) → Nat → Option Ob
  | [], _ => none
  | (l, o) :: fs, k => if l = k then some o else og fs k
/-- A function's own heap when it is done. -/
def outF (s : Nat) (H : Hp) : List (Nat × Ob) → Hp
  | [] => H
  | (l, o) :: fs => hset (outF s H fs) l s o
theorem hget_outF (s : Nat) (H : Hp) (k : Nat) : ∀ fs, hget (outF s H fs) k = (og fs k).or (hget H k)
  | [] => rfl
  | (l, o) :: fs => by
    simp only [outF, og, hget_hset, hget_outF s H k fs]
    split <;> simp
theorem hst_outF (s : Nat) (H : Hp) (k : Nat) : ∀ fs, hst (outF s H fs) k = if (og fs k).isSome then s else hst H k
  | [] => rfl
  | (l, o) :: fs => by
    simp only [outF, og, hst_hset, hst_outF s H k fs]
    split <;> simp
theorem og_mem : ∀ {fs : List (Nat × Ob)} {l : Nat} {o : Ob}, og fs l = some o → (l, o) ∈ fs
  | (m, p) :: fs, l, o, h => by
    simp only [og] at h
    split at h
    · rename_i e
      cases h
      subst e
      simp
    · exact List.mem_cons_of_mem _ (og_mem h)
def act (r : Rn) (nf nx l : Nat) : Option Nat := if l < nf then (rget r l).bind tgt else some (nx + (l - nf))
def src (r : Rn) (nf nx m : Nat) : List (Nat × Ob) → Option (Nat × Ob)
  | [] => none
  | (l, o) :: fs => if act r nf nx l = some m then some (l, o) else src r nf nx m fs
theorem blt_if {a b : Nat} : Nat.blt a b = decide (a < b) := by
  by_cases h : a < b
  · simp [h]
  · cases hb : Nat.blt a b with
    | false => simp [h]
    | true => exact absurd (by simpa using hb) h
theorem hget_outH (r : Rn) (nf nx : Nat) (H : Hp) (m : Nat) : ∀ fs, hget (outH r nf nx H fs) m = match src r nf nx m fs with
    | some q => some (renOb r nf nx q.2)
    | none => hget H m
  | [] => rfl
  | (l, o) :: fs => by
    have ih := hget_outH r nf nx H m fs
    simp only [outH, src, act, blt_if]
    by_cases h : l < nf
    · simp only [h, decide_true, if_true]
      cases hb : (rget r l).bind tgt with
      | none => simpa using ih
      | some t =>
        simp only [hget_hset, ih, Option.some.injEq]
        split <;> rfl
    · simp only [h, decide_false, if_false, hget_cons, Option.some.injEq, ih]
      split <;> rfl
theorem hst_outH (r : Rn) (nf nx : Nat) (H : Hp) (m : Nat) : ∀ fs, hst (outH r nf nx H fs) m = match src r nf nx m fs with
    | some _ => nx
    | none => hst H m
  | [] => rfl
  | (l, o) :: fs => by
    have ih := hst_outH r nf nx H m fs
    simp only [outH, src, act, blt_if]
    by_cases h : l < nf
    · simp only [h, decide_true, if_true]
      cases hb : (rget r l).bind tgt with
      | none => simpa using ih
      | some t =>
        simp only [hst_hset, ih, Option.some.injEq]
        split <;> rfl
    · simp only [h, decide_false, if_false, hst_cons, Option.some.injEq, ih]
      split <;> rfl
theorem src_og {r : Rn} {nf nx m : Nat} : ∀ {fs : List (Nat × Ob)} {l : Nat} {o : Ob}, src r nf nx m fs = some (l, o) → og fs l = some o ∧ act r nf nx l = some m
  | (k, p) :: fs, l, o, h => by
    simp only [src] at h
    split at h
    · rename_i e
      cases h
      exact ⟨by simp [og], e⟩
    · rename_i e
      obtain ⟨h1, h2⟩ := src_og h
      have : k ≠ l := fun ek => e (by rw [ek]; exact h2)
      exact ⟨by simp [og, this, h1], h2⟩
theorem src_none {r : Rn} {nf nx m : Nat} : ∀ {fs : List (Nat × Ob)}, src r nf nx m fs = none → ∀ l o, og fs l = some o → act r nf nx l ≠ some m
  | (k, p) :: fs, h, l, o, hl => by
    simp only [src] at h
    split at h
    · cases h
    · rename_i e
      simp only [og] at hl
      split at hl
      · rename_i ek
        rw [← ek]; exact e
      · exact src_none h l o hl
/-- That a function is entered when it is called. -/
def Ent (P : Program) (f : FuncId) : Prop := ∃ fn c, P.funcs[f]? = some fn ∧ (fn.name == "runtime.NumGoroutine") = false ∧ fn.body = some c
def Ends {X : Type} (x : X) (ν : Nu) (w : World) (h : List Ob) (v : Value) (w' : World) (oc : Outc X) : Prop :=
  ∃ y : oc.Y, oc.post x y ∧ outOK h (oc.out x y) = true ∧ ∃ ν', relR ν' (h.length + oc.nn + 1) (oc.res x y) v ∧ hpH ν' (h.length + oc.nn + 1) w' (outF h.length (heap0 h) (oc.out x y)) ∧
    Mv ν h.length (heap0 h) w ν' (h.length + oc.nn + 1) (outF h.length (heap0 h) (oc.out x y)) w'
theorem Ent.run {P : Program} {f : FuncId} (h : Ent P f) (args : Array Value) (w : World) : (callFunc f args).run P w = .ok (.enter f args) w := by
  obtain ⟨fn, c, h1, h2, h3⟩ := h
  have h2 : fn.name ≠ "runtime.NumGoroutine" := by simpa using h2
  simp [callFunc, h1, h2, h3, mark]
/-- A function keeps its contract. -/
def Good (P : Program) (f : FuncId) (S : Con) : Prop := Ent P f ∧ ∀ x, S.pre x → ∀ ν w args, relVs ν (S.heap x).length (S.args x) args → hpH ν (S.heap x).length w (heap0 (S.heap x)) →
  Calls P f args.toArray w fun e w' => ∃ v, e = .returned v ∧ ∃ oc, oc ∈ S.outs ∧ Ends x ν w (S.heap x) v w' oc
section
variable {P : Program} {ν νf ν1 ν' : Nu} {nf nx N1 : Nat} {w w' : World} {H : Hp} {r : Rn}
theorem ifB_both {c : Bool} {A : Prop} (h : ifB c A False) : c = true ∧ A := by cases c; exact h.elim; exact ⟨rfl, h⟩
theorem allOuts_mem {X : Type} {x : X} {K : R → Hp → Nat → Prop} : ∀ {os : List (Outc X)}, allOuts x r nf nx H K os → ∀ o ∈ os, ∀ y : o.Y, o.post x y → cutOK r (o.out x y) = true ∧ K (renR r nf nx (o.res x y)) (outH r nf nx H (o.out x y)) (nx + o.nn + 1)
  | [], _, _, ho, _, _ => by simp at ho
  | [o], h, _, ho, y, hy => by
    simp only [List.mem_singleton] at ho
    subst ho
    exact ifB_both (h y hy)
  | o :: p :: os, h, q, hq, y, hy => by
    rcases List.mem_cons.1 hq with rfl | hq
    · exact ifB_both (h.1 y hy)
    · exact allOuts_mem h.2 q hq y hy
theorem rnOK_bs (hr : rnOK ν nx νf r) {ν2 : Nu} (hb : ν2.blk = νf.blk) (hs : ν2.sv = νf.sv) : rnOK ν nx ν2 r := fun l a h => by
  have := hr l a h
  rw [hb, hs]
  exact this
structure Ren (ν νf ν1 ν' : Nu) (nf nx nn : Nat) (r : Rn) : Prop where
  rn : rnOK ν nx νf r
  ag : agree nf νf ν1
  old : ∀ m, m < nx → ν'.blk m = ν.blk m ∧ ν'.sv m = ν.sv m
  new : ∀ j, ν'.blk (nx + j) = ν1.blk (nf + j) ∧ ν'.sv (nx + j) = ν1.sv (nf + j)
variable {nn : Nat}
theorem Ren.sv (h : Ren ν νf ν1 ν' nf nx nn r) {l : Nat} (hl : l < nf) : match rget r l with
    | some (.f l' n) => relA ν' (nx + nn + 1) (.f l' n) (ν1.sv l)
    | some (.sb l' z x y) => relA ν' (nx + nn + 1) (.sb l' z x y) (ν1.sv l)
    | some .ns => ν1.sv l = .slice none 0 0
    | some .z => relA ν' (nx + nn + 1) .z (ν1.sv l)
    | _ => True := by
  have hag : agree nx ν ν' := fun m hm => h.old m hm
  rw [(h.ag l hl).2]
  split
  · rename_i hg; exact relA_mono hag (by omega) (h.rn l _ hg)
  · rename_i hg; exact relA_mono hag (by omega) (h.rn l _ hg)
  · rename_i hg; exact h.rn l _ hg
  · rename_i hg; exact h.rn l _ hg
  · trivial
theorem relA_ren (h : Ren ν νf ν1 ν' nf nx nn r) {a : A} {v : Value} (ha : relA ν1 (nf + nn + 1) a v) : relA ν' (nx + nn + 1) (renA r nf nx a) v := by
  cases a with
  | junk => trivial
  | l x => exact ha
  | np => exact ha
  | ns => exact ha
  | z => exact ha
  | o x => exact ha
  | c l n => trivial
  | p l o =>
    obtain ⟨h1, rfl⟩ := ha
    simp only [renA, blt_if]
    by_cases hl : l < nf
    · simp only [hl, decide_true]
      split
      · rename_i l' o' hg
        obtain ⟨_, h2, h3⟩ := h.rn l _ hg
        exact ⟨by omega, by rw [(h.old l' h2).1, ← h3, (h.ag l hl).1]⟩
      · trivial
    · simp only [hl, decide_false]
      refine ⟨by omega, ?_⟩
      rw [(h.new (l - nf)).1, show nf + (l - nf) = l by omega]
  | e l z i o =>
    obtain ⟨h1, b, off, n, cap, h2, h3, rfl⟩ := ha
    simp only [renA, blt_if]
    by_cases hl : l < nf
    · simp only [hl, decide_true]
      have hs := h.sv hl
      split
      · rename_i l' n' hg
        rw [hg] at hs
        obtain ⟨q1, q2, _⟩ := hs
        exact ⟨q1, b, off, n, cap, by rw [← q2]; exact h2, h3, rfl⟩
      · trivial
    · simp only [hl, decide_false]
      refine ⟨by omega, b, off, n, cap, ?_, h3, rfl⟩
      rw [(h.new (l - nf)).2, show nf + (l - nf) = l by omega]
      exact h2
  | f l n =>
    obtain ⟨h1, rfl, base, cap, h2, h3⟩ := ha
    simp only [renA, blt_if]
    by_cases hl : l < nf
    · simp only [hl, decide_true]
      have hs := h.sv hl
      split
      · rename_i l' n' hg
        rw [hg] at hs
        obtain ⟨q1, q2, _⟩ := hs
        exact ⟨q1, q2, base, cap, by rw [← q2]; exact h2, h3⟩
      · rename_i l' z x y hg
        rw [hg] at hs
        exact hs
      · rename_i hg
        rw [hg] at hs
        exact hs
      · rename_i hg
        rw [hg] at hs
        exact hs
      · trivial
    · simp only [hl, decide_false]
      have e : ν'.sv (nx + (l - nf)) = ν1.sv l := by rw [(h.new (l - nf)).2, show nf + (l - nf) = l by omega]
      exact ⟨by omega, e.symm, base, cap, by rw [e]; exact h2, h3⟩
  | sb l z a b =>
    obtain ⟨h1, base, n, cap, base', h2, h3⟩ := ha
    simp only [renA, blt_if]
    by_cases hl : l < nf
    · simp only [hl, decide_true]
      have hs := h.sv hl
      split
      · rename_i l' n' hg
        rw [hg] at hs
        obtain ⟨q1, q2, _⟩ := hs
        exact ⟨q1, base, n, cap, base', by rw [← q2]; exact h2, h3⟩
      · trivial
    · simp only [hl, decide_false]
      have e : ν'.sv (nx + (l - nf)) = ν1.sv l := by rw [(h.new (l - nf)).2, show nf + (l - nf) = l by omega]
      exact ⟨by omega, base, n, cap, base', by rw [e]; exact h2, h3⟩
  | fn f cs =>
    cases cs with
    | nil => exact ⟨by simp, ha.2⟩
    | cons c cs => trivial
theorem relAs_ren (h : Ren ν νf ν1 ν' nf nx nn r) : ∀ {as : List A} {vs : List Value}, relAs ν1 (nf + nn + 1) as vs → relAs ν' (nx + nn + 1) (as.map (renA r nf nx)) vs
  | [], [], _ => trivial
  | _ :: _, _ :: _, ha => ⟨⟨relA_ren h ha.1.1, ha.1.2⟩, relAs_ren h ha.2⟩
  | [], _ :: _, ha => ha.elim
  | _ :: _, [], ha => ha.elim
theorem relV_ren (h : Ren ν νf ν1 ν' nf nx nn r) {a : V} {v : Value} (ha : relV ν1 (nf + nn + 1) a v) : relV ν' (nx + nn + 1) (renV r nf nx a) v := by
  cases a with
  | one a => exact relA_ren h ha
  | agg cs => obtain ⟨vs, h1, h2⟩ := ha; exact ⟨vs, h1, relAs_ren h h2⟩
theorem relVs_ren (h : Ren ν νf ν1 ν' nf nx nn r) : ∀ {as : List V} {vs : List Value}, relVs ν1 (nf + nn + 1) as vs → relVs ν' (nx + nn + 1) (as.map (renV r nf nx)) vs
  | [], [], _ => trivial
  | _ :: _, _ :: _, ha => ⟨relV_ren h ha.1, relVs_ren h ha.2⟩
  | [], _ :: _, ha => ha.elim
  | _ :: _, [], ha => ha.elim
theorem relR_ren (h : Ren ν νf ν1 ν' nf nx nn r) {a : R} {v : Value} (ha : relR ν1 (nf + nn + 1) a v) : relR ν' (nx + nn + 1) (renR r nf nx a) v := by
  cases a with
  | v a => exact relV_ren h ha
  | tup as => obtain ⟨vs, h1, h2⟩ := ha; exact ⟨vs, h1, relVs_ren h h2⟩
/-- The caller's words for what a call has left. -/
def backNu (ν ν1 : Nu) (r : Rn) (nf nx : Nat) (out : List (Nat × Ob)) : Nu :=
  ⟨fun m => if m < nx then ν.blk m else ν1.blk (nf + (m - nx)), fun m => if m < nx then ν.sv m else ν1.sv (nf + (m - nx)), fun m => match src r nf nx m out with
    | some q => ν1.fp q.1
    | none => ν.fp m⟩
theorem backRen (hr : rnOK ν nx νf r) (hag : agree nf νf ν1) (out : List (Nat × Ob)) : Ren ν νf ν1 (backNu ν ν1 r nf nx out) nf nx nn r :=
  ⟨hr, hag, fun m hm => by simp [backNu, hm], fun j => by simp [backNu, show ¬ nx + j < nx by omega]⟩
theorem call_back (hH : hpH ν nx w H) (hr : rnOK ν nx νf r) {hs : List Ob} (ht : ∀ l o, hs[l]? = some o → Tied ν w H r νf l o) (hap : apartR r (enum 0 hs) = true)
    {out : List (Nat × Ob)} (hout : outOK hs out = true) (hcut : cutOK r out = true) {res : R} {v : Value} (hres : relR ν1 (hs.length + nn + 1) res v) (h1 : hpH ν1 (hs.length + nn + 1) w' (outF hs.length (heap0 hs) out))
    (hm : Mv (closeF ν νf r hs) hs.length (heap0 hs) w ν1 (hs.length + nn + 1) (outF hs.length (heap0 hs) out) w') {K : R → Hp → Nat → Prop} (hK : K (renR r hs.length nx res) (outH r hs.length nx H out) (nx + nn + 1)) : Goes ν nx H w K v w' := by
  have hag : agree hs.length νf ν1 := hm.ag
  have R0 : Ren ν νf ν1 (backNu ν ν1 r hs.length nx out) hs.length nx nn r := backRen hr hag out
  have agN : agree nx ν (backNu ν ν1 r hs.length nx out) := R0.old
  have lt : ∀ l o, hs[l]? = some o → l < hs.length := fun l o h => (List.getElem?_eq_some_iff.1 h).1
  have fpb : ∀ m l o, src r hs.length nx m out = some (l, o) → (backNu ν ν1 r hs.length nx out).fp m = ν1.fp l := fun m l o h => by simp [backNu, h]
  have fpn : ∀ m, src r hs.length nx m out = none → (backNu ν ν1 r hs.length nx out).fp m = ν.fp m := fun m h => by simp [backNu, h]
  have okO : ∀ l o, og out l = some o → (o = .gone ∨ ownOb o = true) ∧ ∀ o0, hs[l]? = some o0 → ownOb o0 = true ∧ likeOb o0 o = true := by
    intro l o h
    have h2 := (List.all_eq_true.1 hout) _ (og_mem h)
    simp only [Bool.and_eq_true] at h2
    refine ⟨?_, fun o0 h0 => ?_⟩
    · cases o <;> first | exact .inl rfl | exact .inr h2.1
    · have := h2.2
      rw [h0] at this
      simpa using this
  -- what formal labels came to
  have hgF : ∀ l o, og out l = some o → hget (outF hs.length (heap0 hs) out) l = some o := fun l o h => by rw [hget_outF, h]; rfl
  have hgF0 : ∀ l, og out l = none → hget (outF hs.length (heap0 hs) out) l = hs[l]? := fun l h => by rw [hget_outF, h, hget_heap0]; rfl
  -- an own formal label's blocks, in the actual heap
  have own0 : ∀ b, own (closeF ν νf r hs) (heap0 hs) b → ∃ l o m om, hs[l]? = some o ∧ ownOb o = true ∧ (closeF ν νf r hs).fp l b ∧ (rget r l).bind tgt = some m ∧ hget H m = some om ∧ ownOb om = true ∧ fpO ν m om b := by
    rintro b ⟨l, o, hg, ho, hb⟩
    rw [hget_heap0] at hg
    have hb' := hb
    rw [closeF_fp hg] at hb'
    obtain ⟨m, om, q1, q2, q3, q4⟩ := tied_fp hH hr (ht l o hg) hb'
    exact ⟨l, o, m, om, hg, ho, hb, q1, q2, q4 ho, q3⟩
  have fpOwn : ∀ (ν0 : Nu) m om b, fpO ν0 m om b → ν0.fp m b := fun ν0 m om b h => by cases om <;> first | exact h | exact h.elim
  have fpOof : ∀ (ν0 : Nu) m om b, ownOb om = true → ν0.fp m b → fpO ν0 m om b := fun ν0 m om b h hb => by cases om <;> first | exact hb | cases h
  have actL : ∀ l, l < hs.length → act r hs.length nx l = (rget r l).bind tgt := fun l hl => by simp [act, hl]
  -- a label that is kept keeps its blocks
  have keepB : ∀ m om, src r hs.length nx m out = none → hget H m = some om → ∀ b, fpO ν m om b → w'.heap[b]? = w.heap[b]? := by
    intro m om hsr hg b hb
    have hlt := fp_lt (hH.ob m om hg).2 hb
    by_cases hown : own (closeF ν νf r hs) (heap0 hs) b
    · obtain ⟨l, o, m', om', q1, q2, q3, q4, q5, q6, q7⟩ := own0 b hown
      by_cases e : m = m'
      · subst e
        have hlt' := lt l o q1
        have hol : og out l = none := by
          cases ho : og out l with
          | none => rfl
          | some p => exact absurd (by rw [actL l hlt']; exact q4) (src_none hsr l p ho)
        obtain ⟨_, _, p3⟩ := hm.kp l o (by rw [hget_heap0]; exact q1) (by rw [hst_outF, hol]; rfl)
        exact p3 b (fpOof _ _ _ _ q2 q3)
      · exact absurd q7 fun h => hH.ap m m' om om' e hg q5 (.inr q6) b hb h
    · exact hm.go.block b hlt hown
  -- what has changed lies in blocks that were own, or new
  have chB : ∀ m l o, src r hs.length nx m out = some (l, o) → ownOb o = true → ∀ b, ν1.fp l b → w.heap.size ≤ b ∨ ∃ m' om, src r hs.length nx m' out ≠ none ∧ hget H m' = some om ∧ ownOb om = true ∧ fpO ν m' om b := by
    intro m l o hsr ho b hb
    obtain ⟨g1, g2⟩ := src_og hsr
    rcases hm.own b ⟨l, o, hgF l o g1, ho, hb⟩ with h | h
    · obtain ⟨l', o', m', om', q1, q2, q3, q4, q5, q6, q7⟩ := own0 b h
      refine .inr ⟨m', om', fun hn => ?_, q5, q6, q7⟩
      have hlt' := lt l' o' q1
      have hol : og out l' = none := by
        cases ho : og out l' with
        | none => rfl
        | some p => exact absurd (by rw [actL l' hlt']; exact q4) (src_none hn l' p ho)
      obtain ⟨p1, p2, _⟩ := hm.kp l' o' (by rw [hget_heap0]; exact q1) (by rw [hst_outF, hol]; rfl)
      have hne : l ≠ l' := fun e => by rw [e, hol] at g1; cases g1
      exact h1.ap l l' o o' hne (hgF l o g1) p1 (.inl ho) b (fpOof _ _ _ _ ho hb) (fpOof _ _ _ _ q2 (by rw [p2]; exact q3))
    · exact .inl h
  have getC : ∀ m o', src r hs.length nx m out ≠ none → hget (outH r hs.length nx H out) m = some o' → ∃ l o, src r hs.length nx m out = some (l, o) ∧ o' = renOb r hs.length nx o := by
    intro m o' hne hg
    rw [hget_outH] at hg
    cases hsr : src r hs.length nx m out with
    | none => exact absurd hsr hne
    | some q =>
      rw [hsr] at hg
      simp only [Option.some.injEq] at hg
      exact ⟨q.1, q.2, rfl, hg.symm⟩
  have getK : ∀ m o', src r hs.length nx m out = none → hget (outH r hs.length nx H out) m = some o' → hget H m = some o' := fun m o' h hg => by rw [hget_outH, h] at hg; exact hg
  have ownR : ∀ o, ownOb (renOb r hs.length nx o) = ownOb o := fun o => by cases o <;> rfl
  have fpR : ∀ (ν0 : Nu) m o b, fpO ν0 m (renOb r hs.length nx o) b → fpO ν0 m o b := fun ν0 m o b h => by cases o <;> exact h
  have notGone : ∀ (ν0 : Nu) m l o b, og out l = some o → fpO ν0 m o b → ownOb o = true := fun ν0 m l o b h hb => by
    rcases (okO l o h).1 with rfl | h
    · exact hb.elim
    · exact h
  have hstB : ∀ l o, hget (outH r hs.length nx H out) l = some o → hst (outH r hs.length nx H out) l < nx + nn + 1 := by
    intro l o hg
    rw [hst_outH]
    cases hsr : src r hs.length nx l out with
    | none =>
      have := hH.st l o (getK l o hsr hg)
      simp only
      omega
    | some q => simp only; omega
  have actLt : ∀ m l o, src r hs.length nx m out = some (l, o) → m < nx + nn + 1 ∧ (l < hs.length → m < nx) := by
    intro m l o hsr
    obtain ⟨g1, g2⟩ := src_og hsr
    have hl1 := (h1.ob l o (hgF l o g1)).1
    simp only [act] at g2
    split at g2
    · rename_i hl
      cases hg : rget r l with
      | none => rw [hg] at g2; cases g2
      | some a =>
        rw [hg] at g2
        have := hr l a hg
        have hmx : m < nx := by
          cases a <;> simp only [Option.bind_some, tgt] at g2 <;> first | cases g2 | skip
          · exact this.2.1
          · exact this.1
          · exact this.1
        exact ⟨by omega, fun _ => hmx⟩
    · rename_i hl
      cases g2
      exact ⟨by omega, fun h => absurd h hl⟩
  refine ⟨backNu ν ν1 r hs.length nx out, nx + nn + 1, outH r hs.length nx H out, renR r hs.length nx res, relR_ren R0 hres, ?_, ⟨?_, ?_, agN, by omega, ?_, ?_⟩, hK⟩
  · refine hpH_upd hH (fun m => src r hs.length nx m out = none) hstB (by omega) agN hm.go.size ?_ keepB ?_ ?_ ?_
    · exact fun l o hk hg => ⟨getK l o hk hg, fpn l hk⟩
    · intro m o' hk hg
      obtain ⟨l, o, hsr, rfl⟩ := getC m o' hk hg
      obtain ⟨g1, g2⟩ := src_og hsr
      obtain ⟨_, hob⟩ := h1.ob l o (hgF l o g1)
      obtain ⟨hmlt, hmx⟩ := actLt m l o hsr
      refine ⟨hmlt, ?_⟩
      have hfp := fpb m l o hsr
      -- the label's block and header
      have hbs : (∀ cs, o = .cells cs → (backNu ν ν1 r hs.length nx out).blk m = ν1.blk l) ∧ (∀ ks xs, o = .row true ks xs → (backNu ν ν1 r hs.length nx out).sv m = ν1.sv l) ∧ (∀ a, o = .abs a → (backNu ν ν1 r hs.length nx out).blk m = ν1.blk l) := by
        by_cases hl : l < hs.length
        · obtain ⟨o0, ho0⟩ : ∃ o0, hs[l]? = some o0 := ⟨_, List.getElem?_eq_getElem hl⟩
          have hlk := ((okO l o g1).2 o0 ho0).2
          have hti := ht l o0 ho0
          rw [actL l hl] at g2
          have hmx := hmx hl
          have hP : ∀ q, rget r l = some (.p q 0) → (backNu ν ν1 r hs.length nx out).blk m = ν1.blk l := by
            intro q hq
            rw [hq] at g2
            cases g2
            obtain ⟨_, _, h5⟩ := hr l _ hq
            rw [(agN m hmx).1, (hag l hl).1, h5]
          refine ⟨fun cs e => ?_, fun ks xs e => ?_, fun a e => ?_⟩
          · subst e
            cases o0 with
            | cells _ =>
              obtain ⟨q, _, _, _, hq, _⟩ := hti
              exact hP q hq
            | row ow _ _ => cases ow <;> simp [likeOb] at hlk
            | abs _ => simp [likeOb] at hlk
            | gone => simp [likeOb] at hlk
          · subst e
            cases o0 with
            | row ow ks' xs' =>
              cases ow with
              | false => simp [likeOb] at hlk
              | true =>
                rcases hti with ⟨q, n, own', hq, _⟩ | ⟨hf, _⟩ | ⟨hq, _⟩ | ⟨hf, _⟩ | ⟨_, _, _, _, _, hq, _⟩
                · rw [hq] at g2
                  cases g2
                  obtain ⟨_, h5, _⟩ := hr l _ hq
                  rw [(agN m hmx).2, (hag l hl).2, h5]
                · cases hf
                · rw [hq] at g2; cases g2
                · cases hf
                · have h5 := (List.all_eq_true.1 hcut) _ (og_mem g1)
                  simp [hq] at h5
            | cells _ => simp [likeOb] at hlk
            | abs _ => simp [likeOb] at hlk
            | gone => simp [likeOb] at hlk
          · subst e
            cases o0 with
            | abs _ =>
              obtain ⟨q, hq, _⟩ := hti
              exact hP q hq
            | row ow _ _ => cases ow <;> simp [likeOb] at hlk
            | cells _ => simp [likeOb] at hlk
            | gone => simp [likeOb] at hlk
        · simp only [act, hl, if_false, Option.some.injEq] at g2
          have hn := R0.new (l - hs.length)
          rw [g2, show hs.length + (l - hs.length) = l by omega] at hn
          exact ⟨fun _ _ => hn.1, fun _ _ _ => hn.2, fun _ _ => hn.1⟩
      cases o with
      | cells cs =>
        obtain ⟨p1, vs, T, p2, p3⟩ := hob
        have hb := hbs.1 cs rfl
        exact ⟨by rw [hfp, hb]; exact p1, vs, T, by rw [hb]; exact p2, relAs_ren R0 p3⟩
      | row ow ks xs =>
        cases ow with
        | true =>
          obtain ⟨p0, p1, p2, e, p3⟩ := hob
          have hb := hbs.2.1 ks xs rfl
          exact ⟨p0, p1, by rw [hfp, hb]; exact p2, e, by rw [hb]; exact p3⟩
        | false => rcases (okO l _ g1).1 with h | h <;> cases h
      | abs a =>
        have hb := hbs.2.2 a rfl
        refine ⟨by rw [hfp]; exact hob.1, ?_⟩
        rw [hfp, hb]
        exact hob.2
      | gone => trivial
    · intro m o' hk hg b hb
      obtain ⟨l, o, hsr, rfl⟩ := getC m o' hk hg
      obtain ⟨g1, g2⟩ := src_og hsr
      have hb := fpR _ _ _ _ hb
      have ho := notGone _ _ l o b g1 hb
      have hb := fpOwn _ _ _ _ hb
      rw [fpb m l o hsr] at hb
      exact chB m l o hsr ho b hb
    · intro m m' om om' hne hk hk' hg hg' _ b hb hb'
      obtain ⟨l, o, hsr, rfl⟩ := getC m om hk hg
      obtain ⟨l', o', hsr', rfl⟩ := getC m' om' hk' hg'
      obtain ⟨g1, g2⟩ := src_og hsr
      obtain ⟨g1', g2'⟩ := src_og hsr'
      have hb := fpR _ _ _ _ hb
      have hb' := fpR _ _ _ _ hb'
      have ho := notGone _ _ l o b g1 hb
      have ho' := notGone _ _ l' o' b g1' hb'
      have hb := fpOwn _ _ _ _ hb
      have hb' := fpOwn _ _ _ _ hb'
      rw [fpb m l o hsr] at hb
      rw [fpb m' l' o' hsr'] at hb'
      have hl : l ≠ l' := fun e => hne (by rw [e, g2'] at g2; exact (Option.some.inj g2).symm)
      exact h1.ap l l' o o' hl (hgF l o g1) (hgF l' o' g1') (.inl ho) b (fpOof _ _ _ _ ho hb) (fpOof _ _ _ _ ho' hb')
  · refine hm.go.mono fun b hb => ?_
    obtain ⟨_, _, m, om, _, _, _, _, q5, q6, q7⟩ := own0 b hb
    exact ⟨m, om, q5, q6, fpOwn _ _ _ _ q7⟩
  · rintro b ⟨m, om, hg, ho, hb⟩
    by_cases hk : src r hs.length nx m out = none
    · rw [fpn m hk] at hb
      exact .inl ⟨m, om, getK m om hk hg, ho, hb⟩
    · obtain ⟨l, o, hsr, rfl⟩ := getC m om hk hg
      rw [ownR] at ho
      rw [fpb m l o hsr] at hb
      rcases chB m l o hsr ho b hb with h | ⟨m', om', _, h2, h3, h4⟩
      · exact .inr h
      · exact .inl ⟨m', om', h2, h3, fpOwn _ _ _ _ h4⟩
  · intro m om hg he
    rw [hst_outH] at he
    have hlt := hH.st m om hg
    cases hsr : src r hs.length nx m out with
    | some q => rw [hsr] at he; simp only at he; omega
    | none => exact ⟨by rw [hget_outH, hsr]; exact hg, fpn m hsr, keepB m om hsr hg⟩
  · intro m
    rw [hst_outH]
    cases hsr : src r hs.length nx m out with
    | some q => exact .inr (Nat.le_refl _)
    | none => exact .inl rfl
theorem rnOK_nil : rnOK ν nx νf [] := fun l a h => by cases h
theorem callS_sound {f : FuncId} {S : Con} (hg : Good P f S) {args : List V} {vs : List Value} (hv : relVs ν nx args vs) (hH : hpH ν nx w H) {K : R → Hp → Nat → Prop} (h : callS S args H nx K) :
    Calls P f vs.toArray w fun e w' => ∃ v, e = .returned v ∧ Goes ν nx H w K v w' := by
  obtain ⟨x, h⟩ := h
  obtain ⟨r1, ν1, h1, hr1, e1, f1⟩ := mtVs_sound (νf := ν) rnOK_nil hv h
  obtain ⟨r2, ν2, h2, hr2, e2, t2⟩ := mtHp_sound hH hr1 h1
  unfold ifB at h2
  split at h2
  · rename_i hc
    simp only [Bool.and_eq_true] at hc
    obtain ⟨hp, ho⟩ := h2
    have hb : ∀ l a, rget r2 l = some a → l < (S.heap x).length := by
      intro l a hl
      have hmem : ∀ {r : Rn}, rget r l = some a → (l, a) ∈ r := by
        intro r
        induction r with
        | nil => intro h; cases h
        | cons q r ih =>
          intro h
          rw [show q = (q.1, q.2) from rfl, rget_cons] at h
          split at h
          · rename_i e
            cases h
            subst e
            simp
          · exact List.mem_cons_of_mem _ (ih h)
      have := (List.all_eq_true.1 hc.2) _ (hmem hl)
      rw [blt_if] at this
      simpa using this
    have ht : ∀ l o, (S.heap x)[l]? = some o → Tied ν w H r2 ν2 l o := fun l o hl => t2 (l, o) (enum_mem.2 ⟨Nat.zero_le _, by simpa using hl⟩)
    have hF := closeF_ok hH hr2 ht hc.1 hb
    have ha := f1 r2 (closeF ν ν2 r2 (S.heap x)) (S.heap x).length (e2.trans (ext_closeF _)) hb
    refine Calls.mono (hg.2 x hp _ w vs ha hF) ?_
    rintro e w' ⟨v, rfl, oc, hoc, y, hy, hout, ν', hres, hH', hm⟩
    exact ⟨v, rfl, call_back hH hr2 ht hc.1 hout (allOuts_mem ho oc hoc y hy).1 hres hH' hm (allOuts_mem ho oc hoc y hy).2⟩
  · exact h2.elim
end
end Sx
