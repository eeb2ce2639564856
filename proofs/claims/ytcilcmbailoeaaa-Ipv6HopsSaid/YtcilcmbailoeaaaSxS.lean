/- A symbolic walk: regions in order. -/
import Derived.Test.YtcilcmbailoeaaaSxR
set_option linter.all false
namespace Sx
open Go
def At (ν : Nu) (σ : St) (a : Act) (w : World) : Prop := relT ν σ.nx σ.tmps a.tmps ∧ a.defers = [] ∧ hpH ν σ.nx w σ.H
/-- But for some, the variables are as they were. -/
def Kp (as : List Nat) (tm tm' : List R) : Prop := tm'.length = tm.length ∧ ∀ i, i ∉ as → tm'.getD i .junk = tm.getD i .junk
/-- Where a walk has come to. -/
def Lands (as : List Nat) (ν : Nu) (σ : St) (w : World) (Q : St → Prop) (a' : Act) (w' : World) : Prop :=
  ∃ ν' σ', At ν' σ' a' w' ∧ Mv ν σ.nx σ.H w ν' σ'.nx σ'.H w' ∧ Kp as σ.tmps σ'.tmps ∧ Q σ'
theorem Kp.refl (as : List Nat) (tm : List R) : Kp as tm tm := ⟨rfl, fun _ _ => rfl⟩
theorem Kp.trans {as : List Nat} {t1 t2 t3 : List R} (h : Kp as t1 t2) (k : Kp as t2 t3) : Kp as t1 t3 := ⟨k.1.trans h.1, fun i hi => (k.2 i hi).trans (h.2 i hi)⟩
theorem Kp.mono {as bs : List Nat} {t1 t2 : List R} (h : Kp as t1 t2) (hs : ∀ i ∈ as, i ∈ bs) : Kp bs t1 t2 := ⟨h.1, fun i hi => h.2 i fun h => hi (hs i h)⟩
theorem Kp.set (as : List Nat) (tm : List R) {d : Nat} (r : R) (h : d ∈ as) : Kp as tm (tm.set d r) := ⟨by simp, fun i hi => by
  have : i ≠ d := fun e => hi (e ▸ h)
  simp [List.getD_eq_getElem?_getD, List.getElem?_set, Ne.symm this]⟩
theorem Kp.put (as : List Nat) (tm : List R) {d : Option Tmp} (r : R) (h : ∀ x, d = some x → x ∈ as) : Kp as tm (put tm d r) := by
  cases d with
  | none => exact Kp.refl _ _
  | some d => exact Kp.set _ _ _ (h d rfl)
/-- What an operation may turn among the variables. -/
def tch (ops : Array Oper) (o : Oper) : List Nat := o.dst.toList ++ (o.guard.bind fun g => dstOf ops g.1).toList
section
variable {P : Program} {T : FuncId → Option Con} {inl : FuncId → List V → Hp → Nat → (R → Hp → Nat → Prop) → Prop} {ν ν' : Nu} {N N' : Nat} {w w' : World} {H : Hp}
theorem Lands.mono {as bs : List Nat} {σ : St} {Q Q' : St → Prop} {a : Act} (h : Lands as ν σ w Q a w') (hs : ∀ i ∈ as, i ∈ bs) (hq : ∀ σ, Q σ → Q' σ) : Lands bs ν σ w Q' a w' :=
  let ⟨ν', σ', h1, h2, h3, h4⟩ := h; ⟨ν', σ', h1, h2, h3.mono hs, hq _ h4⟩
theorem Lands.head {as : List Nat} {σ σ1 : St} {ν1 : Nu} {w1 : World} {Q : St → Prop} {a : Act} (hH : hpH ν σ.nx w σ.H) (hm : Mv ν σ.nx σ.H w ν1 σ1.nx σ1.H w1) (hk : Kp as σ.tmps σ1.tmps) (h : Lands as ν1 σ1 w1 Q a w') : Lands as ν σ w Q a w' :=
  let ⟨ν', σ', h1, h2, h3, h4⟩ := h; ⟨ν', σ', h1, hm.trans hH.st h2, hk.trans h3, h4⟩
theorem relT_setB {tm : List R} {ts : Array Value} (ht : relT ν N tm ts) {d : Nat} {c : Bool} (h : tm.getD d .junk = .b c) : relT ν N (tm.set d (.b c)) ts := by
  refine ⟨by simp [ht.1], fun i => ?_⟩
  have : (tm.set d (.b c)).getD i .junk = tm.getD i .junk := by
    by_cases hd : i = d
    · subst hd
      by_cases hi : i < tm.length
      · rw [h]
        simp [List.getD_eq_getElem?_getD, List.getElem?_set, hi]
      · simp [List.getD_eq_getElem?_getD, List.getElem?_set, hi]
    · simp [List.getD_eq_getElem?_getD, List.getElem?_set, Ne.symm hd]
  rw [this]
  exact ht.2 i
theorem relT_bool {tm : List R} {ts : Array Value} (ht : relT ν N tm ts) {d : Nat} {c : Bool} (h : tm.getD d .junk = .b c) : ts[d]? = some (.bool c) := by
  have h1 := ht.2 d
  rw [h] at h1
  obtain ⟨_, h1⟩ := h1
  have hd : d < ts.size := by
    rcases Nat.lt_or_ge d ts.size with hd | hd
    · exact hd
    · have : tm.getD d .junk = R.junk := by
        have hl := ht.1
        simp [List.getD_eq_getElem?_getD, List.getElem?_eq_none (show tm.length ≤ d by omega)]
      rw [h] at this
      cases this
  rw [Array.getElem?_eq_getElem hd]
  simp only [Array.getD_eq_getD_getElem?, Array.getElem?_eq_getElem hd, Option.getD_some] at h1
  rw [h1]
  rfl
theorem relT_unit {ops : Array Oper} {tm : List R} {ts : Array Value} {j d : Nat} (hd : dstOf ops j = some d) (ht : relT ν N tm ts) (h : tm.getD d .junk = .tup []) : yielded ops ts j = none := by
  have hd : (ops[j]?).bind (·.dst) = some d := hd
  have h1 := ht.2 d
  rw [h] at h1
  obtain ⟨vs, h2, h3⟩ := h1
  unfold yielded
  rw [hd]
  simp only [Array.getD_eq_getD_getElem?] at h2
  cases hv : ts[d]? with
  | none => simp [hv]
  | some v =>
    rw [hv] at h2
    have h2 : v = .tuple vs := h2
    simp [hv, h2]
theorem guardK_sound {ops : Array Oper} {o : Oper} {tm : List R} {ts : Array Value} {yes no : List R → Prop} (ht : relT ν N tm ts) (h : guardK ops o.guard tm yes no) :
    ∃ tm', relT ν N tm' ts ∧ Kp (tch ops o) tm tm' ∧ ((Region.wanted o (yielded ops ts) = true ∧ yes tm') ∨ (Region.wanted o (yielded ops ts) = false ∧ no tm')) := by
  unfold guardK at h
  split at h
  · rename_i hg
    exact ⟨tm, ht, Kp.refl _ _, .inl ⟨by simp [Region.wanted, hg], h⟩⟩
  · rename_i j want hg
    split at h
    · rename_i d hd
      split at h
      · rename_i c hc
        have hv := relT_bool ht hc
        have hy : yielded ops ts j = some c := by
          have hd : (ops[j]?).bind (·.dst) = some d := hd
          unfold yielded
          rw [hd]
          simp [hv]
        have hkp : ∀ r, Kp (tch ops o) tm (tm.set d r) := fun r => Kp.set _ _ _ (by simp [tch, hg, hd])
        have hw : Region.wanted o (yielded ops ts) = (c == want) := by simp [Region.wanted, hg, hy]
        refine ⟨tm.set d (.b c), relT_setB ht hc, hkp _, ?_⟩
        cases want <;> cases c <;> simp only [ifB] at h <;> rw [hw] <;> simp [h]
      · rename_i hc
        exact ⟨tm, ht, Kp.refl _ _, .inr ⟨by simp [Region.wanted, hg, relT_unit hd ht hc], h⟩⟩
      · exact h.elim
    · exact h.elim
theorem vcOps_sound (hT : ∀ f S, T f = some S → Good P f S) (hI : InlOK P inl) {ops : Array Oper} {as : List Nat} {Q : Exit → Act → World → Prop} : ∀ {os : List Oper} {ν : Nu} {σ : St} {a : Act} {w : World} {K : St → Prop}, (∀ o ∈ os, ∀ i ∈ tch ops o, i ∈ as) → At ν σ a w → vcOps P T inl ops os σ K →
    (∀ a' w', Lands as ν σ w K a' w' → Q .normal a' w') → wpList P ops Q os a w
  | [], ν, σ, a, w, K, _, hA, h, hQ => hQ a w ⟨ν, σ, hA, Mv.stay _ _ _ _ _ (Nat.le_refl _), Kp.refl _ _, h⟩
  | o :: os, ν, σ, a, w, K, has, hA, h, hQ => by
    obtain ⟨ht, hd, hH⟩ := hA
    have h : guardK ops o.guard σ.tmps (fun tm => opK P T inl tm σ.H σ.nx o.op fun r H nx => vcOps P T inl ops os ⟨put tm o.dst r, H, nx⟩ K)
      (fun tm => vcOps P T inl ops os ⟨put tm o.dst .unit, σ.H, σ.nx⟩ K) := h
    obtain ⟨tm, ht', hk, hc⟩ := guardK_sound ht h
    have hao : ∀ i ∈ tch ops o, i ∈ as := has o (by simp)
    have hdst : ∀ x, o.dst = some x → x ∈ as := fun x hx => hao x (by simp [tch, hx])
    unfold wpList
    rcases hc with ⟨hw, hy⟩ | ⟨hw, hy⟩
    · rw [if_pos hw]
      refine .inl (opK_sound hT hI ht' hH hy fun v w1 hg => ?_)
      obtain ⟨ν1, N1, H1, r, hr, hH1, hm, hK⟩ := hg
      refine vcOps_sound hT hI (fun o' ho' => has o' (by simp [ho'])) (ν := ν1) (σ := ⟨put tm o.dst r, H1, N1⟩) ⟨relT_put (relT_mono hm.ag hm.le ht') o.dst hr, by cases hdd : o.dst <;> simp [Act.put, hd], hH1⟩ hK fun a' w' hl => ?_
      exact hQ a' w' (hl.head hH hm ((hk.mono hao).trans (Kp.put as tm r hdst)))
    · rw [if_neg (by simp [hw])]
      refine vcOps_sound hT hI (fun o' ho' => has o' (by simp [ho'])) (ν := ν) (σ := ⟨put tm o.dst .unit, σ.H, σ.nx⟩) ⟨relT_put ht' o.dst relR_unit, by cases hdd : o.dst <;> simp [Act.put, hd], hH⟩ hy fun a' w' hl => ?_
      exact hQ a' w' (hl.head (σ1 := ⟨put tm o.dst .unit, σ.H, σ.nx⟩) hH (Mv.stay _ _ _ _ _ (Nat.le_refl _)) ((hk.mono hao).trans (Kp.put as tm _ hdst)))
end
end Sx
