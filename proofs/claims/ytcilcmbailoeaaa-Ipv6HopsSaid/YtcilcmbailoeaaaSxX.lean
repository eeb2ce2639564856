/- A symbolic walk: a loop's head. -/
import Derived.Test.YtcilcmbailoeaaaSxW
set_option linter.all false
namespace Sx
open Go
def relRs (ν : Nu) (N : Nat) : List R → List Value → Prop
  | [], [] => True
  | a :: as, v :: vs => relR ν N a v ∧ relRs ν N as vs
  | _, _ => False
section
variable {ν ν' νf ν0 : Nu} {N N' N0 : Nat} {w : World} {H : Hp} {r : Rn} {K : Rn → Prop}
theorem mtRs_sound : ∀ {as bs : List R} {vs : List Value} {r : Rn} {νf : Nu}, rnOK ν N νf r → relRs ν N bs vs → mtRs r as bs K → MtOK ν N r νf K fun ν2 M => relRs ν2 M as vs
  | [], [], [], r, νf, hr, _, h => ⟨r, νf, h, hr, RExt.refl _ _, fun _ _ _ _ _ => trivial⟩
  | a :: as, b :: bs, v :: vs, r, νf, hr, hv, h => by
    obtain ⟨r1, ν1, h1, hr1, e1, f1⟩ := mtR_sound hr hv.1 h
    obtain ⟨r2, ν2, h2, hr2, e2, f2⟩ := mtRs_sound hr1 hv.2 h1
    exact ⟨r2, ν2, h2, hr2, e1.trans e2, fun r3 ν3 M e hM => ⟨f1.ext e2 r3 ν3 M e hM, f2 r3 ν3 M e hM⟩⟩
  | [], _ :: _, _, _, _, _, _, h => h.elim
  | _ :: _, [], _, _, _, _, _, h => h.elim
  | [], [], _ :: _, _, _, _, h, _ => h.elim
  | _ :: _, _ :: _, [], _, _, _, h, _ => h.elim
/-! ### what was known keeps to its labels -/
theorem relA_low (hN : N0 ≤ N) {a : A} {v v0 : Value} (h0 : relA ν0 N0 a v0) (h : relA ν N a v) : relA ν N0 a v := by
  cases a <;> first | exact h | exact ⟨h0.1, h.2⟩
theorem relAs_low (hN : N0 ≤ N) : ∀ {as : List A} {vs us : List Value}, relAs ν0 N0 as us → relAs ν N as vs → relAs ν N0 as vs
  | [], [], _, _, _ => trivial
  | _ :: _, _ :: _, _ :: _, h0, h => ⟨⟨relA_low hN h0.1.1 h.1.1, h.1.2⟩, relAs_low hN h0.2 h.2⟩
  | [], _ :: _, _, _, h => h.elim
  | _ :: _, [], _, _, h => h.elim
  | _ :: _, _ :: _, [], h0, _ => h0.elim
theorem relV_low (hN : N0 ≤ N) {a : V} {v v0 : Value} (h0 : relV ν0 N0 a v0) (h : relV ν N a v) : relV ν N0 a v := by
  cases a with
  | one a => exact relA_low hN h0 h
  | agg cs => obtain ⟨us, _, h0⟩ := h0; obtain ⟨vs, e, h⟩ := h; exact ⟨vs, e, relAs_low hN h0 h⟩
theorem relVs_low (hN : N0 ≤ N) : ∀ {as : List V} {vs us : List Value}, relVs ν0 N0 as us → relVs ν N as vs → relVs ν N0 as vs
  | [], [], _, _, _ => trivial
  | _ :: _, _ :: _, _ :: _, h0, h => ⟨relV_low hN h0.1 h.1, relVs_low hN h0.2 h.2⟩
  | [], _ :: _, _, _, h => h.elim
  | _ :: _, [], _, _, h => h.elim
  | _ :: _, _ :: _, [], h0, _ => h0.elim
theorem relR_low (hN : N0 ≤ N) {a : R} {v v0 : Value} (h0 : relR ν0 N0 a v0) (h : relR ν N a v) : relR ν N0 a v := by
  cases a with
  | v a => exact relV_low hN h0 h
  | tup as => obtain ⟨us, _, h0⟩ := h0; obtain ⟨vs, e, h⟩ := h; exact ⟨vs, e, relVs_low hN h0 h⟩
/-! ### the head's variables and heap -/
theorem havoc_len (as : List Nat) : ∀ tm : List R, (havoc tm as).length = tm.length := by
  induction as with
  | nil => intro tm; rfl
  | cons d as ih => intro tm; exact (ih _).trans (by simp)
theorem havoc_get (as : List Nat) : ∀ (tm : List R) (t : Nat), (havoc tm as).getD t .junk = if t ∈ as then .junk else tm.getD t .junk := by
  induction as with
  | nil => intro tm t; simp [havoc]
  | cons d as ih =>
    intro tm t
    have := ih (tm.set d .junk) t
    simp only [havoc, List.foldl_cons] at this ⊢
    rw [this]
    by_cases h1 : t ∈ as
    · simp [h1]
    · by_cases h2 : t = d
      · subst h2
        by_cases hl : t < tm.length
        · simp [h1, List.getD_eq_getElem?_getD, List.getElem?_set, hl]
        · simp [h1, List.getD_eq_getElem?_getD, List.getElem?_set, hl]
      · simp [h1, h2, List.getD_eq_getElem?_getD, List.getElem?_set, Ne.symm h2]
theorem relT_set {tm : List R} {ts : Array Value} (ht : relT ν N tm ts) {s : Nat} {r : R} (hr : relR ν N r (ts.getD s undef)) : relT ν N (tm.set s r) ts := by
  refine ⟨by simp [ht.1], fun i => ?_⟩
  by_cases hi : i = s
  · subst hi
    by_cases hl : i < tm.length
    · simp only [List.getD_eq_getElem?_getD, List.getElem?_set, if_pos hl, if_true, Option.getD_some]
      exact hr
    · have := ht.2 i
      simpa [List.getD_eq_getElem?_getD, List.getElem?_set, hl, List.getElem?_eq_none (show tm.length ≤ i by omega)] using relR_junk _
  · have : (tm.set s r).getD i .junk = tm.getD i .junk := by simp [List.getD_eq_getElem?_getD, List.getElem?_set, Ne.symm hi]
    rw [this]
    exact ht.2 i
theorem relT_many {ts : Array Value} : ∀ {ss : List Nat} {rs : List R} {tm : List R}, relT ν N tm ts → relRs ν N rs (ss.map fun s => ts.getD s undef) → relT ν N (setMany tm ss rs) ts
  | [], [], tm, h, _ => h
  | s :: ss, r :: rs, tm, h, hr => show relT ν N (setMany (tm.set s r) ss rs) ts from relT_many (relT_set h hr.1) hr.2
  | [], _ :: _, _, h, _ => h
  | _ :: _, [], _, h, _ => h
theorem setMany_kp {as : List Nat} : ∀ {ss : List Nat} {rs : List R} {tm : List R}, (∀ s ∈ ss, s ∈ as) → Kp as tm (setMany tm ss rs)
  | [], [], tm, _ => Kp.refl _ _
  | s :: ss, r :: rs, tm, h => (Kp.set as tm r (h s (by simp))).trans (setMany_kp fun s hs => h s (by simp [hs]))
  | [], _ :: _, _, _ => Kp.refl _ _
  | _ :: _, [], _, _ => Kp.refl _ _
theorem havoc_kp (as : List Nat) (tm : List R) : Kp as tm (havoc tm as) := ⟨havoc_len _ _, fun i hi => by rw [havoc_get, if_neg hi]⟩
theorem relRs_slots {tm : List R} {ts : Array Value} (ht : relT ν N tm ts) : ∀ ss : List Nat, relRs ν N (slotsOf tm ss) (ss.map fun s => ts.getD s undef)
  | [] => trivial
  | s :: ss => ⟨ht.2 s, relRs_slots ht ss⟩
theorem hget_newH (st : Nat) (H : Hp) (k : Nat) : ∀ (ls : List Nat) (os : List Ob), hget (newH st ls os H) k = (og (ls.zip os) k).or (hget H k)
  | [], os => by simp [newH, og]
  | l :: ls, [] => by simp [newH, og]
  | l :: ls, o :: os => by
    simp only [newH, List.zip_cons_cons, og, hget_hset, hget_newH st H k ls os]
    split <;> simp
theorem hst_newH (st : Nat) (H : Hp) (k : Nat) : ∀ (ls : List Nat) (os : List Ob), hst (newH st ls os H) k = if (og (ls.zip os) k).isSome then st else hst H k
  | [], os => by simp [newH, og]
  | l :: ls, [] => by simp [newH, og]
  | l :: ls, o :: os => by
    simp only [newH, List.zip_cons_cons, og, hst_hset, hst_newH st H k ls os]
    split <;> simp
theorem hget_dropH (st : Nat) (H : Hp) (k : Nat) : ∀ ls : List Nat, hget (dropH st ls H) k = if k ∈ ls then some .gone else hget H k
  | [] => by simp [dropH]
  | l :: ls => by
    simp only [dropH, hget_hset, hget_dropH st H k ls]
    by_cases h1 : l = k
    · simp [h1]
    · have h1' : ¬ k = l := fun e => h1 e.symm
      simp [h1, h1']
theorem hst_dropH (st : Nat) (H : Hp) (k : Nat) : ∀ ls : List Nat, hst (dropH st ls H) k = if k ∈ ls then st else hst H k
  | [] => by simp [dropH]
  | l :: ls => by
    simp only [dropH, hst_hset, hst_dropH st H k ls]
    by_cases h1 : l = k
    · simp [h1]
    · have h1' : ¬ k = l := fun e => h1 e.symm
      simp [h1, h1']
theorem maxL_ge : ∀ (ls : List Nat) (m : Nat), m ≤ maxL ls m ∧ ∀ l ∈ ls, l < maxL ls m
  | [], m => ⟨Nat.le_refl _, by simp⟩
  | l :: ls, m => by
    obtain ⟨h1, h2⟩ := maxL_ge ls (max (l + 1) m)
    refine ⟨Nat.le_trans (Nat.le_max_right _ _) h1, fun k hk => ?_⟩
    rcases List.mem_cons.1 hk with rfl | hk
    · have := Nat.le_max_left (k + 1) m
      show k < maxL ls (max (k + 1) m)
      omega
    · exact h2 k hk
theorem rget_idR {fix : List Nat} {l : Nat} {c : A} (h : rget (idR fix H) l = some c) : l ∈ fix ∧ c = idA H l := by
  induction fix with
  | nil => simp [idR, rget] at h
  | cons m fix ih =>
    simp only [idR, List.map_cons] at h
    rw [rget_cons] at h
    split at h
    · rename_i e
      subst e
      exact ⟨by simp, (Option.some.inj h).symm⟩
    · obtain ⟨h1, h2⟩ := ih h
      exact ⟨by simp [h1], h2⟩
theorem tgt_idA (H : Hp) (l : Nat) : tgt (idA H l) = some l := by
  unfold idA
  split <;> rfl
theorem idR_has {fix : List Nat} {l : Nat} (h : l ∈ fix) : ∃ c, rget (idR fix H) l = some c ∧ tgt c = some l := by
  induction fix with
  | nil => simp at h
  | cons m fix ih =>
    simp only [idR, List.map_cons]
    rw [rget_cons]
    by_cases e : m = l
    · subst e
      exact ⟨_, if_pos rfl, tgt_idA _ _⟩
    · rw [if_neg e]
      exact ih ((List.mem_cons.1 h).resolve_left fun e' => e e'.symm)
theorem rnOK_idR (hH : hpH ν N w H) {fix : List Nat} (hf : ∀ l ∈ fix, l < N) : rnOK ν N ν (idR fix H) := by
  intro l c hc
  obtain ⟨h1, h2⟩ := rget_idR hc
  have hl := hf l h1
  unfold idA at h2
  split at h2
  · rename_i ow ks xs hg
    subst h2
    obtain ⟨_, _, base, cap, h3, h4, _⟩ := row_cells (hH.ob _ _ hg).2
    exact ⟨hl, rfl, base, cap, h3, h4⟩
  · subst h2
    exact ⟨rfl, hl, rfl⟩
theorem keptH_get {H H' : Hp} {but : List Nat} (h : keptH H H' but = true) {l : Nat} {o : Ob} (hg : hget H l = some o) (hl : l ∉ but) : hst H' l = hst H l := by
  have : ∀ (G : Hp), (∀ q ∈ G, (but.contains q.1 || Nat.beq (hst H' q.1) q.2.1) = true) → hget G l = some o → hst H' l = hst G l := by
    intro G
    induction G with
    | nil => intro _ h; cases h
    | cons q G ih =>
      intro hq hg
      obtain ⟨m, s, ob⟩ := q
      rw [hget_cons] at hg
      rw [hst_cons]
      by_cases e : m = l
      · subst e
        have := hq (m, s, ob) (by simp)
        simp only [Bool.or_eq_true, List.contains_eq_mem, decide_eq_true_eq] at this
        rw [if_pos rfl]
        exact Nat.eq_of_beq_eq_true (this.resolve_left hl)
      · rw [if_neg e] at hg ⊢
        exact ih (fun q hq' => hq q (by simp [hq'])) hg
  exact this H (List.all_eq_true.1 h) hg
theorem og_zip_some {ls : List Nat} {os : List Ob} (hl : os.length = ls.length) {l : Nat} (h : l ∈ ls) : ∃ o, og (ls.zip os) l = some o := by
  induction ls generalizing os with
  | nil => simp at h
  | cons m ls ih =>
    cases os with
    | nil => simp at hl
    | cons o os =>
      simp only [List.zip_cons_cons, og]
      by_cases e : m = l
      · exact ⟨o, if_pos e⟩
      · rw [if_neg e]
        exact ih (by simpa using hl) ((List.mem_cons.1 h).resolve_left fun e' => e e'.symm)
theorem og_zip_mem {ls : List Nat} {os : List Ob} {l : Nat} {o : Ob} (h : og (ls.zip os) l = some o) : l ∈ ls ∧ o ∈ os ∧ (l, o) ∈ ls.zip os := ⟨(List.of_mem_zip (og_mem h)).1, (List.of_mem_zip (og_mem h)).2, og_mem h⟩
theorem rget_mem {l : Nat} {c : A} : ∀ {r : Rn}, rget r l = some c → (l, c) ∈ r
  | q :: r, h => by
    rw [show q = (q.1, q.2) from rfl, rget_cons] at h
    split at h
    · rename_i e
      have h := Option.some.inj h
      subst e
      subst h
      simp
    · exact List.mem_cons_of_mem _ (rget_mem h)
end
theorem head_at {an : Ann} {σ0 σ : St} {as : List Nat} {ν0 ν : Nu} {a0 a : Act} {w0 w : World} {x : an.X} (hann : annOk an σ0 as = true) (hkept : ∀ l o, hget σ0.H l = some o → l ∉ an.fix ++ an.drop → hst σ.H l = hst σ0.H l)
    (hA0 : At ν0 σ0 a0 w0) (hA : At ν σ a w) (hmv : Mv ν0 σ0.nx σ0.H w0 ν σ.nx σ.H w) (hkp : Kp as σ0.tmps σ.tmps) (h : atHead an σ0 σ x) :
    ∃ ν', At ν' (headSt an σ0 as x) a w ∧ Mv ν0 σ0.nx σ0.H w0 ν' (headSt an σ0 as x).nx (headSt an σ0 as x).H w ∧ Kp as σ0.tmps (headSt an σ0 as x).tmps := by
  simp only [annOk, Bool.and_eq_true, List.all_eq_true] at hann
  obtain ⟨hnew, hfix, hdrop, hslots⟩ := hann
  have hnew : ∀ l ∈ an.new, σ0.nx ≤ l := fun l hl => by simpa using hnew l hl
  have lt0 : ∀ l, (hget σ0.H l).isSome = true → l < σ0.nx := fun l hl => by
    obtain ⟨o, ho⟩ := Option.isSome_iff_exists.1 hl
    exact (hA0.2.2.ob l o ho).1
  have hfixlt : ∀ l ∈ an.fix ++ an.keep, l < σ0.nx := fun l hl => lt0 l (hfix l hl)
  have hdroplt : ∀ l ∈ an.drop, l < σ0.nx := fun l hl => lt0 l (hdrop l hl)
  have hslots : ∀ s ∈ an.slots, s ∈ as := fun s hs => by simpa using hslots s hs
  obtain ⟨hmx1, hmx2⟩ := maxL_ge an.new σ0.nx
  -- matching
  have hr0 : rnOK ν σ.nx ν (idR (an.fix ++ an.keep) σ.H) := rnOK_idR hA.2.2 fun l hl => Nat.lt_of_lt_of_le (hfixlt l hl) hmv.le
  obtain ⟨r1, ν1, h1, hr1, e1, f1⟩ := mtRs_sound hr0 (relRs_slots hA.1 an.slots) h
  obtain ⟨r2, ν2, h2, hr2, e2, t2⟩ := mtHp_sound hA.2.2 hr1 h1
  unfold ifB at h2
  split at h2
  rotate_left
  · exact h2.elim
  rename_i hc
  simp only [Bool.and_eq_true, List.all_eq_true] at hc
  obtain ⟨⟨hap, hlen, hown⟩, hkeys, hnt⟩ := hc
  have hlen := Nat.eq_of_beq_eq_true hlen
  have hkeys : ∀ l c, rget r2 l = some c → l ∈ (an.fix ++ an.keep) ++ an.new := fun l c hl => by simpa using hkeys _ (rget_mem hl)
  have e02 := e1.trans e2
  have g0 : ∀ l, og ((an.fix ++ an.new).zip (an.obs x)) l = none → l ∉ an.fix ++ an.new := fun l hl hm => by
    obtain ⟨o, ho⟩ := og_zip_some hlen hm
    rw [hl] at ho
    cases ho
  have g1 : ∀ l o, og ((an.fix ++ an.new).zip (an.obs x)) l = some o → l ∈ an.fix ++ an.new ∧ ownOb o = true ∧ Tied ν w σ.H r2 ν2 l o := fun l o hl => by
    obtain ⟨q1, q2, q3⟩ := og_zip_mem hl
    exact ⟨q1, hown o q2, t2 (l, o) q3⟩
  generalize hg : og ((an.fix ++ an.new).zip (an.obs x)) = g at g0 g1
  -- the target of a fixed label is itself
  have tfix : ∀ l ∈ an.fix, (rget r2 l).bind tgt = some l := fun l hl => by
    obtain ⟨c, hc1, hc2⟩ := idR_has (H := σ.H) (List.mem_append_left an.keep hl)
    rw [e02.mono l c hc1]
    exact hc2
  have tnew : ∀ l ∈ an.new, ∀ t, (rget r2 l).bind tgt = some t → t ∈ an.drop ∨ hget σ0.H t = none := fun l hl t ht => by
    have := hnt l hl
    rw [ht] at this
    simpa using this
  -- the words for the head
  let ν' : Nu := ⟨fun l => if l < σ0.nx then ν0.blk l else ν2.blk l, fun l => if l < σ0.nx then ν0.sv l else ν2.sv l, fun l b => match g l with
    | some o => fpF ν ν2 r2 l b o
    | none => ν0.fp l b⟩
  have agN : agree σ0.nx ν0 ν' := fun l hl => by simp [ν', hl]
  have ex : RExt r2 ν2 r2 ν' := ⟨fun _ _ h => h, fun l c hl => by
    rcases List.mem_append.1 (hkeys l c hl) with hm | hm
    · have hlt := hfixlt l hm
      obtain ⟨c', hc', _⟩ := idR_has (H := σ.H) hm
      obtain ⟨s1, s2⟩ := e02.same l c' hc'
      obtain ⟨s3, s4⟩ := hmv.ag l hlt
      exact ⟨by simp [ν', hlt, s1, s3], by simp [ν', hlt, s2, s4]⟩
    · have hge := hnew l hm
      exact ⟨by simp [ν', show ¬ l < σ0.nx by omega], by simp [ν', show ¬ l < σ0.nx by omega]⟩⟩
  have keylt : ∀ l c, rget r2 l = some c → l < maxL an.new σ0.nx + 1 := fun l c hl => by
    rcases List.mem_append.1 (hkeys l c hl) with hm | hm
    · have := hfixlt l hm; omega
    · have := hmx2 l hm; omega
  have glt : ∀ l o, g l = some o → l < maxL an.new σ0.nx + 1 := fun l o hl => by
    rcases List.mem_append.1 (g1 l o hl).1 with hm | hm
    · have := hfixlt l (List.mem_append_left _ hm); omega
    · have := hmx2 l hm; omega
  have fps : ∀ l o, g l = some o → ∀ b, ν'.fp l b = fpF ν ν2 r2 l b o := fun l o hl b => by simp [ν', hl]
  have fpn : ∀ l, g l = none → ν'.fp l = ν0.fp l := fun l hl => by funext b; simp [ν', hl]
  have gH : ∀ l, hget (headSt an σ0 as x).H l = (g l).or (if l ∈ an.drop then some .gone else hget σ0.H l) := fun l => by
    show hget (newH _ _ _ _) l = _
    rw [hget_newH, hg, hget_dropH]
  have sH : ∀ l, hst (headSt an σ0 as x).H l = if (g l).isSome then maxL an.new σ0.nx else if l ∈ an.drop then maxL an.new σ0.nx else hst σ0.H l := fun l => by
    show hst (newH _ _ _ _) l = _
    rw [hst_newH, hg, hst_dropH]
  have fpOof : ∀ (ν0 : Nu) m om b, ownOb om = true → ν0.fp m b → fpO ν0 m om b := fun ν0 m om b h hb => by cases om <;> first | exact hb | cases h
  have fpOwn : ∀ (ν0 : Nu) m om b, fpO ν0 m om b → ν0.fp m b := fun ν0 m om b h => by cases om <;> first | exact h | exact h.elim
  -- what stays
  have getK : ∀ l o, g l = none → l ∉ an.drop → hget (headSt an σ0 as x).H l = some o → hget σ0.H l = some o := fun l o h1 h2 h3 => by
    rw [gH, h1, if_neg h2] at h3
    exact h3
  have stK : ∀ l o, g l = none → l ∉ an.drop → hget σ0.H l = some o → hst σ.H l = hst σ0.H l := fun l o h1 h2 h3 => hkept l o h3 fun h4 => by
    have := g0 l h1
    rw [List.mem_append] at h4 this
    rcases h4 with h4 | h4
    · exact this (.inl h4)
    · exact h2 h4
  -- an own label of the head: its blocks
  have ownB : ∀ l o, g l = some o → ∀ b, ν'.fp l b → ∃ m om, (rget r2 l).bind tgt = some m ∧ hget σ.H m = some om ∧ ownOb om = true ∧ ν.fp m b := fun l o hl b hb => by
    rw [fps l o hl] at hb
    obtain ⟨m, om, q1, q2, q3, q4⟩ := tied_fp hA.2.2 hr2 (g1 l o hl).2.2 hb
    exact ⟨m, om, q1, q2, q4 (g1 l o hl).2.1, fpOwn _ _ _ _ q3⟩
  have notK : ∀ l o, g l = some o → ∀ b, ν'.fp l b → ∀ m0 om0, hget σ0.H m0 = some om0 → ownOb om0 = true → ν0.fp m0 b → ¬ (g m0 = none ∧ m0 ∉ an.drop) := by
    rintro l o hl b hb m0 om0 hm0 ho0 hb0 ⟨k1, k2⟩
    obtain ⟨m, om, q1, q2, q3, q4⟩ := ownB l o hl b hb
    obtain ⟨p1, p2, _⟩ := hmv.kp m0 om0 hm0 (stK m0 om0 k1 k2 hm0)
    have : m = m0 := Classical.byContradiction fun hne => hA.2.2.ap m m0 om om0 hne q2 p1 (.inl q3) b (fpOof _ _ _ _ q3 q4) (fpOof _ _ _ _ ho0 (by rw [p2]; exact hb0))
    subst this
    rcases List.mem_append.1 (g1 l o hl).1 with hm | hm
    · rw [tfix l hm] at q1
      cases q1
      rw [hl] at k1
      cases k1
    · rcases tnew l hm m q1 with h | h
      · exact k2 h
      · rw [h] at hm0; cases hm0
  have hstlt : ∀ l o, hget (headSt an σ0 as x).H l = some o → hst (headSt an σ0 as x).H l < maxL an.new σ0.nx + 1 := fun l o hl => by
    rw [sH]
    split
    · omega
    · rename_i h1
      split
      · omega
      · rename_i h2
        have := hA0.2.2.st l o (getK l o (by simpa using h1) h2 hl)
        omega
  have hS2 : hpH ν' (maxL an.new σ0.nx + 1) w (headSt an σ0 as x).H := by
    refine hpH_upd hA0.2.2 (fun l => g l = none ∧ l ∉ an.drop) hstlt (by omega) agN hmv.go.size ?_ ?_ ?_ ?_ ?_
    · exact fun l o hk hl => ⟨getK l o hk.1 hk.2 hl, fpn l hk.1⟩
    · exact fun l o hk hl b hb => (hmv.kp l o hl (stK l o hk.1 hk.2 hl)).2.2 b hb
    · intro l o hk hl
      cases hgl : g l with
      | some o' =>
        rw [gH, hgl] at hl
        cases hl
        exact ⟨glt l o hgl, close_ob hA.2.2 hr2 (g1 l o hgl).2.2 ex keylt (fps l o hgl)⟩
      | none =>
        have hd : l ∈ an.drop := Classical.byContradiction fun hd => hk ⟨hgl, hd⟩
        rw [gH, hgl, if_pos hd] at hl
        cases hl
        have := hdroplt l hd
        exact ⟨by omega, trivial⟩
    · intro l o hk hl b hb
      cases hgl : g l with
      | some o' =>
        rw [gH, hgl] at hl
        cases hl
        have hb := fpOwn _ _ _ _ hb
        obtain ⟨m, om, q1, q2, q3, q4⟩ := ownB l o hgl b hb
        rcases hmv.own b ⟨m, om, q2, q3, q4⟩ with ⟨m0, om0, p1, p2, p3⟩ | hge
        · exact .inr ⟨m0, om0, notK l o hgl b hb m0 om0 p1 p2 p3, p1, p2, fpOof _ _ _ _ p2 p3⟩
        · exact .inl hge
      | none =>
        have hd : l ∈ an.drop := Classical.byContradiction fun hd => hk ⟨hgl, hd⟩
        rw [gH, hgl, if_pos hd] at hl
        cases hl
        exact hb.elim
    · intro l l' o o' hne hk hk' hl hl' _ b hb hb'
      cases hgl : g l with
      | none =>
        have hd : l ∈ an.drop := Classical.byContradiction fun hd => hk ⟨hgl, hd⟩
        rw [gH, hgl, if_pos hd] at hl
        cases hl
        exact hb.elim
      | some p =>
        cases hgl' : g l' with
        | none =>
          have hd : l' ∈ an.drop := Classical.byContradiction fun hd => hk' ⟨hgl', hd⟩
          rw [gH, hgl', if_pos hd] at hl'
          cases hl'
          exact hb'.elim
        | some p' =>
          obtain ⟨m, om, q1, q2, q3, q4⟩ := ownB l p hgl b (fpOwn _ _ _ _ hb)
          obtain ⟨m', om', q1', q2', q3', q4'⟩ := ownB l' p' hgl' b (fpOwn _ _ _ _ hb')
          by_cases e : m = m'
          · subst e
            rw [← hg] at hgl hgl'
            obtain ⟨z1, _⟩ := apartR_ne hap (l, p) (l', p') (og_mem hgl) (og_mem hgl') hne m q1 q1'
            rw [hg] at hgl
            have := (g1 l p hgl).2.1
            simp only at z1
            rw [z1] at this
            cases this
          · exact hA.2.2.ap m m' om om' e q2 q2' (.inl q3) b (fpOof _ _ _ _ q3 q4) (fpOof _ _ _ _ q3' q4')
  refine ⟨ν', ⟨?_, hA.2.1, hS2⟩, ⟨hmv.go, ?_, agN, (by show σ0.nx ≤ maxL an.new σ0.nx + 1; omega), ?_, ?_⟩, (havoc_kp as σ0.tmps).trans (setMany_kp hslots)⟩
  · refine relT_many ?_ (f1.ext e2 r2 ν' _ ex keylt)
    refine ⟨?_, fun t => ?_⟩
    · rw [havoc_len]
      exact hkp.1.symm.trans hA.1.1
    · rw [havoc_get]
      split
      · exact relR_junk _
      · rename_i ht
        have hx := hA.1.2 t
        rw [hkp.2 t ht] at hx
        have hlow := relR_low hmv.le (hA0.1.2 t) hx
        have ag2 : agree σ0.nx ν ν' := fun l hl => ⟨(agN l hl).1.trans (hmv.ag l hl).1.symm, (agN l hl).2.trans (hmv.ag l hl).2.symm⟩
        exact relR_mono ag2 (by show σ0.nx ≤ maxL an.new σ0.nx + 1; omega) hlow
  · rintro b ⟨l, o, hl, ho, hb⟩
    cases hgl : g l with
    | some p =>
      obtain ⟨m, om, q1, q2, q3, q4⟩ := ownB l p hgl b hb
      exact hmv.own b ⟨m, om, q2, q3, q4⟩
    | none =>
      by_cases hd : l ∈ an.drop
      · rw [gH, hgl, if_pos hd] at hl
        cases hl
        cases ho
      · rw [fpn l hgl] at hb
        exact .inl ⟨l, o, getK l o hgl hd hl, ho, hb⟩
  · intro l o hl he
    have hlt := hA0.2.2.st l o hl
    rw [sH] at he
    cases hgl : g l with
    | some p => rw [hgl] at he; simp at he; omega
    | none =>
      rw [hgl] at he
      simp only [Option.isSome_none, Bool.false_eq_true, if_false] at he
      by_cases hd : l ∈ an.drop
      · rw [if_pos hd] at he; omega
      · exact ⟨by rw [gH, hgl, if_neg hd]; exact hl, fpn l hgl, (hmv.kp l o hl (stK l o hgl hd hl)).2.2⟩
  · intro l
    rw [sH]
    split
    · exact .inr hmx1
    · split
      · exact .inr hmx1
      · exact .inl rfl
end Sx
