/- A symbolic walk: code. -/
import Derived.Test.YtcilcmbailoeaaaSxX
import Derived.Deep.LoopGhost
import Derived.LoopN
set_option linter.all false
namespace Sx
open Go
def exM : Ex → Exit → Prop
  | .n, .normal => True
  | .x i, .exit j => i = j
  | .r, .ret => True
  | _, _ => False
def LandsX (as : List Nat) (ν : Nu) (σ : St) (w : World) (Q : Ex → St → Prop) (e : Exit) (a' : Act) (w' : World) : Prop := ∃ e', exM e' e ∧ Lands as ν σ w (Q e') a' w'
section
variable {P : Program} {T : FuncId → Option Con} {inl : FuncId → List V → Hp → Nat → (R → Hp → Nat → Prop) → Prop} {Lp : Nat → Lan}
theorem LandsX.head {as : List Nat} {σ σ1 : St} {ν ν1 : Nu} {w w1 w' : World} {Q : Ex → St → Prop} {e : Exit} {a : Act} (hH : hpH ν σ.nx w σ.H) (hm : Mv ν σ.nx σ.H w ν1 σ1.nx σ1.H w1) (hk : Kp as σ.tmps σ1.tmps) (h : LandsX as ν1 σ1 w1 Q e a w') : LandsX as ν σ w Q e a w' :=
  let ⟨e', h1, h2⟩ := h; ⟨e', h1, h2.head hH hm hk⟩
theorem LandsX.mono {as bs : List Nat} {σ : St} {ν : Nu} {w w' : World} {Q Q' : Ex → St → Prop} {e : Exit} {a : Act} (h : LandsX as ν σ w Q e a w') (hs : ∀ i ∈ as, i ∈ bs) (hq : ∀ e σ, Q e σ → Q' e σ) : LandsX bs ν σ w Q' e a w' :=
  let ⟨e', h1, h2⟩ := h; ⟨e', h1, h2.mono hs (hq e')⟩
theorem LandsX.normal {as : List Nat} {σ : St} {ν : Nu} {w w' : World} {Q : Ex → St → Prop} {a : Act} (h : LandsX as ν σ w Q .normal a w') : Lands as ν σ w (Q .n) a w' := by
  obtain ⟨e', h1, h2⟩ := h
  cases e' with
  | n => exact h2
  | x i => exact h1.elim
  | r => exact h1.elim
theorem lands_here {as : List Nat} {σ : St} {ν : Nu} {w : World} {a : Act} {Q : St → Prop} (hA : At ν σ a w) (h : Q σ) : Lands as ν σ w Q a w := ⟨ν, σ, hA, Mv.stay _ _ _ _ _ (Nat.le_refl _), Kp.refl _ _, h⟩
theorem at_drawn {ν : Nu} {σ : St} {a : Act} {w : World} (hA : At ν σ a w) : At ν σ a { w with drawn := w.drawn + 1 } := by
  refine ⟨hA.1, hA.2.1, ⟨fun l o hl => ?_, hA.2.2.st, hA.2.2.ap⟩⟩
  obtain ⟨h1, h2⟩ := hA.2.2.ob l o hl
  exact ⟨h1, obH_kept (fun _ _ => ⟨rfl, rfl⟩) (Nat.le_refl _) (Nat.le_refl _) h1 rfl (fun _ _ => rfl) h2⟩
theorem mv_drawn (ν : Nu) (N : Nat) (H : Hp) (w : World) : Mv ν N H w ν N H { w with drawn := w.drawn + 1 } :=
  ⟨⟨rfl, rfl, rfl, Nat.le_refl _, fun _ _ _ => rfl⟩, fun _ h => .inl h, fun _ _ => ⟨rfl, rfl⟩, Nat.le_refl _, fun _ _ h _ => ⟨h, rfl, fun _ _ => rfl⟩, fun _ => .inl rfl⟩
theorem left_rep (n : Nat) : left (Array.replicate n false) = n := by
  simp [left, List.countP_replicate]
theorem sim_start {ops : Array Oper} {ν : Nu} {σ : St} {a : Act} {w : World} (hA : At ν σ a w) : Sim P ops (Array.replicate ops.size false) (List.replicate ops.size false) [] ν σ a w := by
  have hl : ∀ i, ¬ Li (Array.replicate ops.size false) i := fun i h => by
    simp only [Li, Array.getD_eq_getD_getElem?, Array.getElem?_replicate] at h
    split at h <;> simp at h
  have hd : ∀ i, ¬ Di (List.replicate ops.size false) i := fun i h => by
    simp [Di, List.getD_eq_getElem?_getD, List.getElem?_replicate] at h
    split at h <;> simp at h
  exact ⟨by simp, by simp, by simp, fun i h => absurd h (hd i), fun i h => absurd h (hl i), fun i _ _ h => absurd h (hl i), fun i _ _ h => absurd h (hd i), trivial, hA.1.1, fun t => .inr (hA.1.2 t), hA.2.1, hA.2.2⟩
theorem tch_asg {id : Nat} {ops : Array Oper} {dr : Bool} {o : Oper} (ho : o ∈ ops.toList) : ∀ t ∈ tch ops o, t ∈ asg (.region id ops dr) := by
  intro t ht
  simp only [tch, List.mem_append, Option.mem_toList] at ht
  simp only [asg, List.mem_append, List.mem_filterMap]
  rcases ht with ht | ht
  · exact .inl ⟨o, ho, ht⟩
  · exact .inr ⟨o, ho, ht⟩
theorem rounds_mono {c : Code} {Q Q' : Exit → Act → World → Prop} (h : ∀ e a w, Q e a w → Q' e a w) : ∀ {n : Nat} {a : Act} {w : World}, Code.rounds P c Q n a w → Code.rounds P c Q' n a w
  | 0, _, _, hr => hr
  | n + 1, a, w, hr => by
    rw [rounds_succ] at hr ⊢
    refine wp_mono hr fun e a w hq => ?_
    cases e with
    | normal => exact rounds_mono h hq
    | exit i => exact h _ _ _ hq
    | goto i => exact h _ _ _ hq
    | ret => exact h _ _ _ hq
    | panic c => exact h _ _ _ hq
    | outgrown => exact h _ _ _ hq
theorem cond_set {t : Nat} {tm : List R} {x : Bool} (h : tm.getD t .junk = .b x) : tm.set t (.b x) = tm := set_same h
theorem vc_sound (hM : P.follows .mixedOrders = true) (hT : ∀ f S, T f = some S → Good P f S) (hI : InlOK P inl) : ∀ (c : Code) {k : Nat} {σ : St} {Q : Ex → St → Prop} {ν : Nu} {a : Act} {w : World}, At ν σ a w → vc P T inl Lp c k σ Q → c.wp P (LandsX (asg c) ν σ w Q) a w
  | .skip, k, σ, Q, ν, a, w, hA, h => wp_skip ⟨.n, trivial, lands_here hA h⟩
  | .exit id, k, σ, Q, ν, a, w, hA, h => wp_exit ⟨.x id, rfl, lands_here hA h⟩
  | .ret, k, σ, Q, ν, a, w, hA, h => wp_ret ⟨.r, trivial, lands_here hA h⟩
  | .region id ops false, k, σ, Q, ν, a, w, hA, h =>
    wp_region_list (vcOps_sound hT hI (as := asg (.region id ops false)) (fun o ho => tch_asg ho) hA h fun a' w' hl => ⟨.n, trivial, hl⟩)
  | .region id ops true, k, σ, Q, ν, a, w, hA, h => by
    have h : ifB (okReg P ops) (regA P T inl ops (enum 0 ops.toList) (masks ops.toList []) ops.size (List.replicate ops.size false) σ (Q .n)) False := h
    unfold ifB at h
    split at h
    · rename_i hk
      refine wp_region_any hM (regA_sound hT hI (as := asg (.region id ops true)) (fun i o ho => tch_asg (by rw [Array.mem_toList_iff]; exact Array.mem_of_getElem? ho)) hk ops.size (left_rep _) (sim_start (at_drawn hA)) h fun a' w' hl => ⟨.n, trivial, ?_⟩)
      exact hl.head hA.2.2 (mv_drawn _ _ _ _) (Kp.refl _ _)
    · exact h.elim
  | .seq c d, k, σ, Q, ν, a, w, hA, h => by
    refine wp_seq (wp_mono (vc_sound hM hT hI c hA h) fun e a1 w1 hl => ?_)
    have go : ∀ e', exM e' e → e' ≠ .n → LandsX (asg c) ν σ w (fun e σ => match e with | .n => vc P T inl Lp d k σ Q | e => Q e σ) e a1 w1 → LandsX (asg (.seq c d)) ν σ w Q e a1 w1 := by
      rintro e' h1 h2 ⟨e2, h3, h4⟩
      refine ⟨e2, h3, h4.mono (by simp only [asg, List.mem_append]; exact fun i hi => .inl hi) ?_⟩
      cases e2 with
      | n => cases e <;> cases e' <;> first | exact absurd rfl h2 | exact h3.elim | exact h1.elim
      | x i => exact fun _ h => h
      | r => exact fun _ h => h
    cases e with
    | normal =>
      obtain ⟨ν1, σ1, hA1, hm1, hk1, h1⟩ := hl.normal
      refine wp_mono (vc_sound hM hT hI d hA1 h1) fun e a2 w2 h2 => ?_
      have h2 : LandsX (asg (.seq c d)) ν1 σ1 w1 Q e a2 w2 := h2.mono (by simp only [asg, List.mem_append]; exact fun i hi => .inr hi) fun _ _ h => h
      exact h2.head hA.2.2 hm1 (hk1.mono (by simp only [asg, List.mem_append]; exact fun i hi => .inl hi))
    | exit i => exact go (.x i) rfl (by simp) hl
    | ret => exact go .r trivial (by simp) hl
    | goto i => obtain ⟨e', h1, _⟩ := hl; cases e' <;> exact h1.elim
    | panic c => obtain ⟨e', h1, _⟩ := hl; cases e' <;> exact h1.elim
    | outgrown => obtain ⟨e', h1, _⟩ := hl; cases e' <;> exact h1.elim
  | .cond cnd c d, k, σ, Q, ν, a, w, hA, h => by
    have hsub1 : ∀ i ∈ asg c, i ∈ asg (.cond cnd c d) := fun i hi => by simp only [asg, List.mem_append]; exact .inl (.inr hi)
    have hsub2 : ∀ i ∈ asg d, i ∈ asg (.cond cnd c d) := fun i hi => by simp only [asg, List.mem_append]; exact .inr hi
    have fin : ∀ x : Bool, ev σ.tmps cnd = .b x → ifB x (vc P T inl Lp c k σ Q) (vc P T inl Lp d k σ Q) → (Code.cond cnd c d).wp P (LandsX (asg (.cond cnd c d)) ν σ w Q) a w := by
      intro x hx h
      have he : a.eval cnd = .bool x := by
        have := relR_ev hA.1 cnd
        rw [hx] at this
        exact this.2
      cases x with
      | true => exact wp_cond_true he (wp_mono (vc_sound hM hT hI c hA h) fun e a' w' hl => hl.mono hsub1 fun _ _ h => h)
      | false => exact wp_cond_false he (wp_mono (vc_sound hM hT hI d hA h) fun e a' w' hl => hl.mono hsub2 fun _ _ h => h)
    unfold vc at h
    split at h
    · rename_i t x hx
      refine fin x hx ?_
      have hx' : σ.tmps.getD t .junk = .b x := hx
      cases x with
      | true => simp only [ifB] at h ⊢; rw [set_same hx'] at h; exact h
      | false => simp only [ifB] at h ⊢; rw [set_same hx'] at h; exact h
    · rename_i v x hx
      exact fin x hx h
    · exact h.elim
  | .block id c, k, σ, Q, ν, a, w, hA, h => by
    refine wp_block (wp_mono (vc_sound hM hT hI c hA h) fun e a1 w1 hl => ?_)
    have same : ∀ i ∈ asg c, i ∈ asg (.block id c) := fun i hi => hi
    cases e with
    | normal => exact ⟨.n, trivial, hl.normal.mono same fun _ h => h⟩
    | exit i =>
      obtain ⟨e', h1, h2⟩ := hl
      cases e' with
      | n => exact h1.elim
      | r => exact h1.elim
      | x j =>
        have h1 : j = i := h1
        subst h1
        simp only [Exit.inBlock]
        split
        · rename_i hj
          subst hj
          refine ⟨.n, trivial, h2.mono same fun σ1 h => ?_⟩
          simpa using h
        · rename_i hj
          refine ⟨.x j, rfl, h2.mono same fun σ1 h => ?_⟩
          simpa [beq_no hj] using h
    | ret =>
      obtain ⟨e', h1, h2⟩ := hl
      cases e' with
      | r => exact ⟨.r, trivial, h2.mono same fun _ h => h⟩
      | n => exact h1.elim
      | x j => exact h1.elim
    | goto i => obtain ⟨e', h1, _⟩ := hl; cases e' <;> exact h1.elim
    | panic c => obtain ⟨e', h1, _⟩ := hl; cases e' <;> exact h1.elim
    | outgrown => obtain ⟨e', h1, _⟩ := hl; cases e' <;> exact h1.elim
  | .loop c, k, σ, Q, ν, a, w, hA, h => by
    have ihc : ∀ {σ : St} {Q : Ex → St → Prop} {ν : Nu} {a : Act} {w : World}, At ν σ a w → vc P T inl Lp c k σ Q → c.wp P (LandsX (asg c) ν σ w Q) a w := fun hA h => vc_sound hM hT hI c hA h
    have keyI : ∀ an : Ann, invP an σ (asg c) (fun σ Q => vc P T inl Lp c k σ Q) Q → (Code.loop c).wp P (LandsX (asg (.loop c)) ν σ w Q) a w := by
      intro an h
      unfold invP ifB at h
      split at h
      rotate_left
      · exact h.elim
      rename_i hann
      obtain ⟨I, μ, ⟨x0, hI0, hat0⟩, hbody⟩ := h
      obtain ⟨ν1, hA1, hm1, hk1⟩ := head_at hann (fun l o _ _ => rfl) hA hA (Mv.stay ν σ.nx σ.nx σ.H w (Nat.le_refl _)) (Kp.refl (asg c) σ.tmps) hat0
      refine wp_loop_ghost (fun n a' w' => ∃ x ν', I x ∧ μ x = n ∧ At ν' (headSt an σ (asg c) x) a' w' ∧ Mv ν σ.nx σ.H w ν' (headSt an σ (asg c) x).nx (headSt an σ (asg c) x).H w' ∧ Kp (asg c) σ.tmps (headSt an σ (asg c) x).tmps) (μ x0) ⟨x0, ν1, hI0, rfl, hA1, hm1, hk1⟩ ?_
      rintro n a' w' ⟨x, ν', hIx, rfl, hA', hm', hk'⟩
      refine wp_mono (ihc hA' (hbody x hIx)) fun e a2 w2 hl => ?_
      cases e with
      | normal =>
        obtain ⟨ν2, σ2, hA2, hm2, hk2, h2⟩ := hl.normal
        simp only at h2
        split at h2
        · rename_i hkept
          obtain ⟨y, hIy, hlt, haty⟩ := h2
          have hm3 := hm'.trans hA.2.2.st hm2
          have hk3 := hk'.trans hk2
          obtain ⟨ν3, hA3, hm4, hk4⟩ := head_at hann (fun l o h1 h2 => keptH_get hkept h1 h2) hA hA2 hm3 hk3 haty
          exact ⟨μ y, hlt, y, ν3, hIy, rfl, hA3, hm4, hk4⟩
        · exact h2.elim
      | exit i =>
        obtain ⟨e', h1, h2⟩ := hl
        cases e' with
        | x j => exact ⟨.x j, h1, h2.head hA.2.2 hm' hk'⟩
        | n => exact h1.elim
        | r => exact h1.elim
      | ret =>
        obtain ⟨e', h1, h2⟩ := hl
        cases e' with
        | r => exact ⟨.r, trivial, h2.head hA.2.2 hm' hk'⟩
        | n => exact h1.elim
        | x j => exact h1.elim
      | goto i => obtain ⟨e', h1, _⟩ := hl; cases e' <;> exact h1.elim
      | panic c => obtain ⟨e', h1, _⟩ := hl; cases e' <;> exact h1.elim
      | outgrown => obtain ⟨e', h1, _⟩ := hl; cases e' <;> exact h1.elim
    unfold vc at h
    split at h
    · cases h
    · rename_i n _
      refine wp_loop_rounds n ?_
      have key : ∀ (n : Nat) {σ : St} {ν : Nu} {a : Act} {w : World}, At ν σ a w → unr (fun σ Q => vc P T inl Lp c k σ Q) n σ Q → Code.rounds P c (LandsX (asg (.loop c)) ν σ w Q) n a w := by
        intro n
        induction n with
        | zero => intro σ ν a w hA h; exact h.elim
        | succ n ih =>
          intro σ ν a w hA h
          rw [rounds_succ]
          refine wp_mono (ihc hA h) fun e a1 w1 hl => ?_
          cases e with
          | normal =>
            obtain ⟨ν1, σ1, hA1, hm1, hk1, h1⟩ := hl.normal
            exact rounds_mono (fun e a2 w2 h2 => h2.head hA.2.2 hm1 hk1) (ih hA1 h1)
          | exit i =>
            obtain ⟨e', h1, h2⟩ := hl
            cases e' with
            | x j => exact ⟨.x j, h1, h2⟩
            | n => exact h1.elim
            | r => exact h1.elim
          | ret =>
            obtain ⟨e', h1, h2⟩ := hl
            cases e' with
            | r => exact ⟨.r, trivial, h2⟩
            | n => exact h1.elim
            | x j => exact h1.elim
          | goto i => obtain ⟨e', h1, _⟩ := hl; cases e' <;> exact h1.elim
          | panic c => obtain ⟨e', h1, _⟩ := hl; cases e' <;> exact h1.elim
          | outgrown => obtain ⟨e', h1, _⟩ := hl; cases e' <;> exact h1.elim
      exact key n hA h
    · rename_i an _
      exact keyI an h
    · split at h
      · exact keyI _ h
      · cases h
  | .rangeFunc .., k, σ, Q, ν, a, w, hA, h => h.elim
  | .scope c, k, σ, Q, ν, a, w, hA, h => h.elim
  | .label l, k, σ, Q, ν, a, w, hA, h => h.elim
  | .goto l, k, σ, Q, ν, a, w, hA, h => h.elim
  | .refuse l, k, σ, Q, ν, a, w, hA, h => h.elim
end
end Sx
