/- A symbolic walk: a function's end. -/
import Derived.Test.YtcilcmbailoeaaaSxY
set_option linter.all false
namespace Sx
open Go
section
variable {P : Program} {T : FuncId → Option Con} {inl : FuncId → List V → Hp → Nat → (R → Hp → Nat → Prop) → Prop} {Lp : Nat → Lan}
/-- A heap told under other names. -/
theorem recast {ν0 ν ν2 : Nu} {N0 N st M : Nat} {H0 H H' : Hp} {w0 w : World} {r2 : Rn} {g : Nat → Option Ob} (hH0 : hpH ν0 N0 w0 H0) (hH : hpH ν N w H) (hmv : Mv ν0 N0 H0 w0 ν N H w) (hr2 : rnOK ν N ν2 r2) (hN0 : N0 ≤ st) (hM : st < M)
    (gH : ∀ l, hget H' l = (g l).or (hget H0 l)) (sH : ∀ l, hst H' l = if (g l).isSome then st else hst H0 l) (tied : ∀ l o, g l = some o → Tied ν w H r2 ν2 l o ∧ (o = .gone ∨ ownOb o = true))
    (same : ∀ l c, l < N0 → rget r2 l = some c → ν2.blk l = ν0.blk l ∧ ν2.sv l = ν0.sv l) (keys : ∀ l c, rget r2 l = some c → l < M) (glt : ∀ l o, g l = some o → l < M)
    (apart : ∀ l l' o o', l ≠ l' → g l = some o → g l' = some o' → ∀ t, (rget r2 l).bind tgt = some t → (rget r2 l').bind tgt = some t → ownOb o = false ∧ ownOb o' = false)
    (tgts : ∀ l o t, g l = some o → ownOb o = true → (rget r2 l).bind tgt = some t → hget H0 t = none ∨ (g t).isSome = true) (stK : ∀ l o, g l = none → hget H0 l = some o → hst H l = hst H0 l) :
    ∃ ν', agree N0 ν0 ν' ∧ RExt r2 ν2 r2 ν' ∧ hpH ν' M w H' ∧ Mv ν0 N0 H0 w0 ν' M H' w := by
  let ν' : Nu := ⟨fun l => if l < N0 then ν0.blk l else ν2.blk l, fun l => if l < N0 then ν0.sv l else ν2.sv l, fun l b => match g l with
    | some o => fpF ν ν2 r2 l b o
    | none => ν0.fp l b⟩
  have agN : agree N0 ν0 ν' := fun l hl => by simp [ν', hl]
  have ex : RExt r2 ν2 r2 ν' := ⟨fun _ _ h => h, fun l c hl => by
    by_cases h : l < N0
    · obtain ⟨h1, h2⟩ := same l c h hl
      simp [ν', h, h1, h2]
    · simp [ν', h]⟩
  have fps : ∀ l o, g l = some o → ∀ b, ν'.fp l b = fpF ν ν2 r2 l b o := fun l o hl b => by simp [ν', hl]
  have fpn : ∀ l, g l = none → ν'.fp l = ν0.fp l := fun l hl => by funext b; simp [ν', hl]
  have fpOof : ∀ (ν0 : Nu) m om b, ownOb om = true → ν0.fp m b → fpO ν0 m om b := fun ν0 m om b h hb => by cases om <;> first | exact hb | cases h
  have fpOwn : ∀ (ν0 : Nu) m om b, fpO ν0 m om b → ν0.fp m b := fun ν0 m om b h => by cases om <;> first | exact h | exact h.elim
  have getK : ∀ l o, g l = none → hget H' l = some o → hget H0 l = some o := fun l o h1 h3 => by
    rw [gH, h1] at h3
    exact h3
  have ownG : ∀ l o b, g l = some o → fpO ν' l o b → ownOb o = true := fun l o b hl hb => by
    rcases (tied l o hl).2 with rfl | h
    · exact hb.elim
    · exact h
  have ownB : ∀ l o, g l = some o → ownOb o = true → ∀ b, ν'.fp l b → ∃ m om, (rget r2 l).bind tgt = some m ∧ hget H m = some om ∧ ownOb om = true ∧ ν.fp m b := fun l o hl ho b hb => by
    rw [fps l o hl] at hb
    obtain ⟨m, om, q1, q2, q3, q4⟩ := tied_fp hH hr2 (tied l o hl).1 hb
    exact ⟨m, om, q1, q2, q4 ho, fpOwn _ _ _ _ q3⟩
  have notK : ∀ l o, g l = some o → ownOb o = true → ∀ b, ν'.fp l b → ∀ m0 om0, hget H0 m0 = some om0 → ownOb om0 = true → ν0.fp m0 b → ¬ g m0 = none := by
    intro l o hl ho b hb m0 om0 hm0 ho0 hb0 k1
    obtain ⟨m, om, q1, q2, q3, q4⟩ := ownB l o hl ho b hb
    obtain ⟨p1, p2, _⟩ := hmv.kp m0 om0 hm0 (stK m0 om0 k1 hm0)
    have : m = m0 := Classical.byContradiction fun hne => hH.ap m m0 om om0 hne q2 p1 (.inl q3) b (fpOof _ _ _ _ q3 q4) (fpOof _ _ _ _ ho0 (by rw [p2]; exact hb0))
    subst this
    rcases tgts l o m hl ho q1 with h | h
    · rw [h] at hm0; cases hm0
    · rw [k1] at h; cases h
  have hstlt : ∀ l o, hget H' l = some o → hst H' l < M := fun l o hl => by
    rw [sH]
    split
    · omega
    · rename_i h1
      have := hH0.st l o (getK l o (by simpa using h1) hl)
      omega
  refine ⟨ν', agN, ex, ?_, ⟨hmv.go, ?_, agN, by omega, ?_, ?_⟩⟩
  · refine hpH_upd hH0 (fun l => g l = none) hstlt (by omega) agN hmv.go.size ?_ ?_ ?_ ?_ ?_
    · exact fun l o hk hl => ⟨getK l o hk hl, fpn l hk⟩
    · exact fun l o hk hl b hb => (hmv.kp l o hl (stK l o hk hl)).2.2 b hb
    · intro l o hk hl
      cases hgl : g l with
      | some o' =>
        rw [gH, hgl] at hl
        cases hl
        exact ⟨glt l o hgl, close_ob hH hr2 (tied l o hgl).1 ex keys (fps l o hgl)⟩
      | none => exact absurd hgl hk
    · intro l o hk hl b hb
      cases hgl : g l with
      | some o' =>
        rw [gH, hgl] at hl
        cases hl
        have ho := ownG l o b hgl hb
        have hb := fpOwn _ _ _ _ hb
        obtain ⟨m, om, q1, q2, q3, q4⟩ := ownB l o hgl ho b hb
        rcases hmv.own b ⟨m, om, q2, q3, q4⟩ with ⟨m0, om0, p1, p2, p3⟩ | hge
        · exact .inr ⟨m0, om0, notK l o hgl ho b hb m0 om0 p1 p2 p3, p1, p2, fpOof _ _ _ _ p2 p3⟩
        · exact .inl hge
      | none => exact absurd hgl hk
    · intro l l' o o' hne hk hk' hl hl' _ b hb hb'
      cases hgl : g l with
      | none => exact absurd hgl hk
      | some p =>
        cases hgl' : g l' with
        | none => exact absurd hgl' hk'
        | some p' =>
          rw [gH, hgl] at hl
          cases hl
          rw [gH, hgl'] at hl'
          cases hl'
          have ho := ownG l _ b hgl hb
          have ho' := ownG l' _ b hgl' hb'
          obtain ⟨m, om, q1, q2, q3, q4⟩ := ownB l _ hgl ho b (fpOwn _ _ _ _ hb)
          obtain ⟨m', om', q1', q2', q3', q4'⟩ := ownB l' _ hgl' ho' b (fpOwn _ _ _ _ hb')
          by_cases e : m = m'
          · subst e
            have := (apart l l' _ _ hne hgl hgl' m q1 q1').1
            rw [ho] at this
            cases this
          · exact hH.ap m m' om om' e q2 q2' (.inl q3) b (fpOof _ _ _ _ q3 q4) (fpOof _ _ _ _ q3' q4')
  · rintro b ⟨l, o, hl, ho, hb⟩
    cases hgl : g l with
    | some p =>
      rw [gH, hgl] at hl
      cases hl
      obtain ⟨m, om, q1, q2, q3, q4⟩ := ownB l _ hgl ho b hb
      exact hmv.own b ⟨m, om, q2, q3, q4⟩
    | none =>
      rw [fpn l hgl] at hb
      exact .inl ⟨l, o, getK l o hgl hl, ho, hb⟩
  · intro l o hl he
    have hlt := hH0.st l o hl
    rw [sH] at he
    cases hgl : g l with
    | some p => rw [hgl] at he; simp at he; omega
    | none => exact ⟨by rw [gH, hgl]; exact hl, fpn l hgl, (hmv.kp l o hl (stK l o hgl hl)).2.2⟩
  · intro l
    rw [sH]
    split
    · exact .inr hN0
    · exact .inl rfl
theorem anyOut_one {X : Type} {x : X} {h : List Ob} {r : R} {H : Hp} : ∀ {os : List (Outc X)}, anyOut x h r H os → ∃ o ∈ os, anyOut.one x h r H o
  | [], h => h.elim
  | [o], h => ⟨o, by simp, h⟩
  | o :: p :: os, h => by
    rcases h with h | h
    · exact ⟨o, by simp, h⟩
    · obtain ⟨q, h1, h2⟩ := anyOut_one (os := p :: os) h
      exact ⟨q, List.mem_cons_of_mem _ h1, h2⟩
theorem enum_fst_mem {α : Type} : ∀ {xs : List α} {n l : Nat}, l ∈ (enum n xs).map (·.1) ↔ n ≤ l ∧ l < n + xs.length
  | [], n, l => by simp [enum]
  | x :: xs, n, l => by
    simp only [enum, List.map_cons, List.mem_cons, enum_fst_mem, List.length_cons]
    omega
theorem og_isSome {fs : List (Nat × Ob)} {l : Nat} : (og fs l).isSome = true ↔ l ∈ fs.map (·.1) := by
  induction fs with
  | nil => simp [og]
  | cons q fs ih =>
    obtain ⟨m, o⟩ := q
    simp only [og, List.map_cons, List.mem_cons]
    by_cases h : m = l
    · simp [h]
    · have h' : ¬ l = m := fun e => h e.symm
      simp only [h, if_false, ih, h', false_or]
theorem end_at {X : Type} {x : X} {hs : List Ob} {res : R} {ν0 ν : Nu} {N : Nat} {H : Hp} {w0 w : World} {v : Value} (hH0 : hpH ν0 hs.length w0 (heap0 hs)) (hH : hpH ν N w H) (hmv : Mv ν0 hs.length (heap0 hs) w0 ν N H w) (hres : relR ν N res v) {os : List (Outc X)} (h : anyOut x hs res H os) :
    ∃ oc, oc ∈ os ∧ Ends x ν0 w0 hs v w oc := by
  obtain ⟨oc, hoc, y, hpost, h⟩ := anyOut_one h
  refine ⟨oc, hoc, y, hpost, ?_⟩
  have lt0 : ∀ l, l ∈ (enum 0 hs).map (·.1) ↔ l < hs.length := fun l => by rw [enum_fst_mem]; omega
  have hr0 : rnOK ν N ν (idR ((enum 0 hs).map (·.1)) (heap0 hs)) := by
    have h0 : rnOK ν0 hs.length ν0 (idR ((enum 0 hs).map (·.1)) (heap0 hs)) := rnOK_idR hH0 fun l hl => (lt0 l).1 hl
    intro l c hc
    have h1 := h0 l c hc
    obtain ⟨hl, hc'⟩ := rget_idR hc
    have hlt := (lt0 l).1 hl
    obtain ⟨a1, a2⟩ := hmv.ag l hlt
    have hle := hmv.le
    unfold idA at hc'
    split at hc'
    · subst hc'
      rw [a2]
      exact relA_mono hmv.ag hle h1
    · subst hc'
      exact ⟨rfl, by omega, rfl⟩
  obtain ⟨r1, ν1, h1, hr1, e1, f1⟩ := mtR_sound hr0 hres h
  obtain ⟨r2, ν2, h2, hr2, e2, t2⟩ := mtHp_sound hH hr1 h1
  unfold ifB at h2
  split at h2
  rotate_left
  · exact h2.elim
  rename_i hc
  simp only [Bool.and_eq_true] at hc
  obtain ⟨hap, hkept, hout, hnewT, hkeys⟩ := hc
  have hkeys : ∀ l c, rget r2 l = some c → l < hs.length + oc.nn := fun l c hl => by
    have := (List.all_eq_true.1 hkeys) _ (rget_mem hl)
    rw [blt_if] at this
    simpa using this
  have e02 := e1.trans e2
  have okO : ∀ l o, og (oc.out x y) l = some o → o = .gone ∨ ownOb o = true := by
    intro l o h
    have h2 := (List.all_eq_true.1 hout) _ (og_mem h)
    simp only [Bool.and_eq_true] at h2
    cases o <;> first | exact .inl rfl | exact .inr h2.1
  have tself : ∀ l, l < hs.length → (rget r2 l).bind tgt = some l := fun l hl => by
    obtain ⟨c, hc1, hc2⟩ := idR_has (H := heap0 hs) ((lt0 l).2 hl)
    rw [e02.mono l c hc1]
    exact hc2
  have hnewT : ∀ l o, og (oc.out x y) l = some o → l < hs.length + oc.nn ∧ (l < hs.length ∨ ∀ t, (rget r2 l).bind tgt = some t → hs.length ≤ t ∨ (og (oc.out x y) t).isSome = true) := fun l o hl => by
    have h3 := (List.all_eq_true.1 hnewT) _ (og_mem hl)
    simp only [Bool.and_eq_true, Bool.or_eq_true, blt_if, decide_eq_true_eq] at h3
    refine ⟨h3.1, h3.2.imp id fun h4 t ht => ?_⟩
    rw [ht] at h4
    simp only [Bool.or_eq_true, List.any_eq_true] at h4
    rcases h4 with h4 | ⟨p, hp, he⟩
    · exact .inl (Nat.le_of_ble_eq_true h4)
    · refine .inr (og_isSome.2 (List.mem_map.2 ⟨p, hp, Nat.eq_of_beq_eq_true he⟩))
  have hget0 : ∀ t, hs.length ≤ t → hget (heap0 hs) t = none := fun t ht => by rw [hget_heap0, List.getElem?_eq_none ht]
  obtain ⟨ν', a1, a2, a3, a4⟩ := recast (st := hs.length) (M := hs.length + oc.nn + 1) (g := og (oc.out x y)) (H' := outF hs.length (heap0 hs) (oc.out x y)) hH0 hH hmv hr2 (Nat.le_refl _) (by omega) (fun l => hget_outF _ _ _ _) (fun l => hst_outF _ _ _ _)
    (fun l o hl => ⟨t2 (l, o) (og_mem hl), okO l o hl⟩)
    (fun l c hlt hl => by
      obtain ⟨c', hc', _⟩ := idR_has (H := heap0 hs) ((lt0 l).2 hlt)
      obtain ⟨s1, s2⟩ := e02.same l c' hc'
      obtain ⟨s3, s4⟩ := hmv.ag l hlt
      exact ⟨s1.trans s3, s2.trans s4⟩)
    (fun l c hl => by have := hkeys l c hl; omega) (fun l o hl => by have := (hnewT l o hl).1; omega)
    (fun l l' o o' hne hl hl' t ht ht' => apartR_ne hap (l, o) (l', o') (og_mem hl) (og_mem hl') hne t ht ht')
    (fun l o t hl ho ht => by
      rcases (hnewT l o hl).2 with h | h
      · rw [tself l h] at ht
        cases ht
        exact .inr (by rw [hl]; rfl)
      · exact (h t ht).imp (hget0 t) id)
    (fun l o hl hg => keptH_get hkept hg fun hm => by have := og_isSome.2 hm; rw [hl] at this; cases this)
  exact ⟨hout, ν', f1.ext e2 r2 ν' _ a2 (fun l c hl => by have := hkeys l c hl; omega), a3, a4⟩
end
end Sx
