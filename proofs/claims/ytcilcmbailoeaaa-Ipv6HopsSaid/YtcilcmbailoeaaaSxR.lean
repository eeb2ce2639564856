/- A symbolic walk: operations of whatever kind; regions in order. -/
import Derived.Test.YtcilcmbailoeaaaSxQ
set_option linter.all false
namespace Sx
open Go
def InlOK (P : Program) (inl : FuncId → List V → Hp → Nat → (R → Hp → Nat → Prop) → Prop) : Prop := ∀ f args H nx K, inl f args H nx K → Ent P f ∧ ∀ ν w vs, relVs ν nx args vs → hpH ν nx w H →
  Calls P f vs.toArray w fun e w' => ∃ v, e = .returned v ∧ Goes ν nx H w K v w'
section
variable {P : Program} {T : FuncId → Option Con} {inl : FuncId → List V → Hp → Nat → (R → Hp → Nat → Prop) → Prop} {ν : Nu} {N : Nat} {w : World} {H : Hp}
theorem vals_rel : ∀ {xs : List R} {us : List Value} {vs : List V}, (∀ i, i < xs.length → relR ν N (xs.getD i .junk) (us.getD i undef)) → xs.length = us.length → vals xs = some vs → relVs ν N vs us
  | [], [], vs, _, _, h => by cases h; trivial
  | [], _ :: _, _, _, h, _ => by simp at h
  | _ :: _, [], _, _, h, _ => by simp at h
  | .v x :: xs, u :: us, vs, hr, hl, h => by
    simp only [vals] at h
    split at h
    · rename_i ws hw
      cases h
      exact ⟨hr 0 (by simp), vals_rel (fun i hi => by simpa using hr (i + 1) (by simpa using hi)) (by simpa using hl) hw⟩
    · cases h
  | .tup _ :: _, _ :: _, _, _, _, h => by simp [vals] at h
theorem relVs_app : ∀ {xs ys : List V} {us vs : List Value}, relVs ν N xs us → relVs ν N ys vs → relVs ν N (xs ++ ys) (us ++ vs)
  | [], _, [], _, _, h => h
  | _ :: _, _, _ :: _, _, h, h' => ⟨h.1, relVs_app h.2 h'⟩
  | [], _, _ :: _, _, h, _ => h.elim
  | _ :: _, _, [], _, h, _ => h.elim
theorem relVs_ptr : ∀ {cs : List (Nat × Nat)}, (∀ q ∈ cs, q.1 < N) → relVs ν N (cs.map fun q => .one (.p q.1 q.2)) (cs.map fun q => Value.pointer (some ⟨ν.blk q.1, q.2, none⟩))
  | [], _ => trivial
  | c :: cs, h => ⟨⟨h c (by simp), rfl⟩, relVs_ptr fun q hq => h q (by simp [hq])⟩
theorem goes_stay (hH : hpH ν N w H) {r : R} {v : Value} (hr : relR ν N r v) {K : R → Hp → Nat → Prop} (h : K r H N) : Goes ν N H w K v w := ⟨ν, N, H, r, hr, hH, Mv.stay _ _ _ _ _ (Nat.le_refl _), h⟩
theorem callK_sound (hT : ∀ f S, T f = some S → Good P f S) (hI : InlOK P inl) {f : R} {xs : List R} {u : Value} {us : List Value} (hf : relR ν N f u) (hx : ∀ i, i < xs.length → relR ν N (xs.getD i .junk) (us.getD i undef)) (hl : xs.length = us.length)
    (hH : hpH ν N w H) {K : R → Hp → Nat → Prop} (h : callK T inl f xs H N K) :
    ∃ g cs, u = .func (.func g) #[] cs ∧ Ent P g ∧ Calls P g (us.toArray ++ cs) w fun e w' => ∃ v, e = .returned v ∧ Goes ν N H w K v w' := by
  unfold callK at h
  split at h
  · rename_i g cs vs hv
    obtain ⟨h1, h2⟩ := hf
    have hr := relVs_app (vals_rel hx hl hv) (relVs_ptr (ν := ν) h1)
    have he : (us ++ (cs.map fun q => Value.pointer (some ⟨ν.blk q.1, q.2, none⟩))).toArray = us.toArray ++ (cs.map fun q => Value.pointer (some ⟨ν.blk q.1, q.2, none⟩)).toArray := by simp
    split at h
    · rename_i S hS
      have hg := hT _ _ hS
      exact ⟨g, _, h2, hg.1, by rw [← he]; exact callS_sound hg hr hH h⟩
    · obtain ⟨p1, p2⟩ := hI _ _ _ _ _ h
      exact ⟨g, _, h2, p1, by rw [← he]; exact p2 ν w _ hr hH⟩
  · exact h.elim
theorem nilK_sound {x : R} {u : Value} (hx : relR ν N x u) {K : Bool → Prop} (h : nilK x K) : ∃ a n c, u = .slice a n c ∧ K a.isNone := by
  unfold nilK at h
  split at h
  · cases hx
    exact ⟨_, _, _, rfl, h⟩
  · obtain ⟨_, rfl, base, cap, h1, h2, _, h3⟩ := hx
    refine ⟨_, _, _, h1, ?_⟩
    cases base with
    | some a => exact h.2
    | none => exact h.1 (by have := h3 rfl; omega)
  · obtain ⟨_, base, n, cap, base', _, _, _, _, rfl, _, h2, _, h3⟩ := hx
    refine ⟨_, _, _, rfl, ?_⟩
    cases base' with
    | some a => exact h.2
    | none => exact h.1 (by have := h3 rfl; omega)
  · exact h.elim
theorem run_eqIn_sl (d : Nat) {t e : TypeId} {a : Option Addr} {n c : Nat} (hu : P.underlying t = some (.slice e)) : (Op.equalIn (d + 1) t (.slice a n c) (.slice none 0 0)).run P w = .ok a.isNone w := by
  cases a <;> simp [Op.equalIn, run_underlying hu]
theorem run_eq_sl {t e : TypeId} {a : Option Addr} {n c : Nat} (hu : P.underlying t = some (.slice e)) : (Op.equal t (.slice a n c) (.slice none 0 0)).run P w = .ok a.isNone w := run_eqIn_sl 9999 hu
theorem nilOp_sound {op : BinOp} {t : TypeId} {x : R} {u : Value} {xo yo : Operand} (hx : relR ν N x u) {K : Bool → Prop} (h : nilOp P op t x K) : ∃ b, (bin op t xo yo u (.slice none 0 0)).run P w = .ok (.bool b) w ∧ K b := by
  unfold nilOp at h
  split at h
  · rename_i e he
    obtain ⟨a, n, c, rfl, h⟩ := nilK_sound hx h
    refine ⟨_, ?_, h⟩
    have hu : P.underlying t = some (.slice e) := by unfold elemT at he; split at he <;> simp_all
    simp [bin, eqGuard_at_slice, binOp, run_eq_sl hu]
  · rename_i e he
    obtain ⟨a, n, c, rfl, h⟩ := nilK_sound hx h
    refine ⟨_, ?_, h⟩
    have hu : P.underlying t = some (.slice e) := by unfold elemT at he; split at he <;> simp_all
    simp [bin, eqGuard_at_slice, binOp, run_eq_sl hu]
  · exact h.elim
theorem opK_sound (hT : ∀ f S, T f = some S → Good P f S) (hI : InlOK P inl) {tm : List R} {a : Act} (ht : relT ν N tm a.tmps) (hH : hpH ν N w H) {o : Oper} {K : R → Hp → Nat → Prop} (h : opK P T inl tm H N o.op K)
    {next : Act → World → Prop} {Q : Exit → Act → World → Prop} (hn : ∀ v w', Goes ν N H w K v w' → next (a.put o.dst v) w') : o.wp P a w next Q := by
  have E := relR_ev (ν := ν) (N := N) ht
  have quiet : (fl P tm H o.op).holds (fun r => K r H N) → o.wp P a w next Q := by
    intro h
    obtain ⟨r, h1, h2⟩ := Fl.holds_out h
    obtain ⟨v, h3, h4⟩ := fl_sound ht hH h1
    exact wp_of_run h4 (hn v w (goes_stay hH h3 h2))
  obtain ⟨dst, op, type, pos, after, guard⟩ := o
  unfold opK at h
  simp only at h quiet hn
  split at h
  · rename_i t
    split at h
    · rename_i z hz
      obtain ⟨v, w', h1, h2⟩ := alloc_sound (P := P) hH hz h
      exact wp_of_run (by simp [execOp, h1]) (hn v w' h2)
    · exact h.elim
  · rename_i t x
    split at h
    · rename_i v hv
      have hx := E x
      rw [hv] at hx
      split at h
      · rename_i vs hvs
        obtain ⟨z, w', h1, h2⟩ := box_sound (P := P) (t := t) hH hx hvs h
        exact wp_of_run (by simp [execOp, h1]) (hn z w' h2)
      · exact h.elim
    · exact h.elim
  · rename_i t n parts
    obtain ⟨z, w', h1, h2⟩ := buildSlice_sound (P := P) hH (relParts_ev ht parts.toList) h
    have he : (parts.map fun q => (q.1, a.eval q.2)) = (parts.toList.map fun q => (q.1, a.eval q.2)).toArray := by rw [← Array.toList_inj, Array.toList_map]
    exact wp_of_run (by simp [execOp]; rw [he, h1]; rfl) (hn z w' h2)
  · rename_i t l c
    obtain ⟨z, w', h1, h2⟩ := makeSlice_sound (P := P) hH (E l) (E c) h
    exact wp_of_run (by simp [execOp, h1]) (hn z w' h2)
  · rename_i t x y
    obtain ⟨w', h1, h2⟩ := store_sound (P := P) hH (E x) (E y) h
    exact wp_of_skip (by simp [execOp, h1]) (hn undef w' h2)
  · rename_i op t x y q
    split at h
    · rename_i hy
      have hy : y = .const (.slice none 0 0) := by
        unfold isNilC at hy
        split at hy
        · rfl
        · cases hy
      subst hy
      obtain ⟨b, h1, h2⟩ := nilOp_sound (P := P) (w := w) (xo := x) (yo := .const (.slice none 0 0)) (E x) h
      have hy : a.eval (.const (.slice none 0 0)) = .slice none 0 0 := rfl
      refine wp_of_run ?_ (hn (.bool b) w (goes_stay hH (relB_mk _) h2))
      simp only [execOp, Sem.run_bind, hy] at h1 ⊢
      simp [h1]
    · exact quiet h
  · rename_i s d x
    split at h
    · rename_i e hs hd
      split at h
      · rename_i he
        obtain ⟨u, hu, z, w', h1, h2⟩ := toBytes_sound (P := P) (e := e) hH (E x) h
        refine wp_of_run (z := z) (w' := w') ?_ (hn z w' h2)
        simp [execOp, Go.convert, run_underlying hs, run_underlying hd, run_underlying he, hu, h1]
      · exact h.elim
    · split at h
      · rename_i hb
        have hb := Nat.eq_of_beq_eq_true hb
        subst hb
        obtain ⟨z, w', h1, h2⟩ := asText_sound (P := P) hH (E x) h
        exact wp_of_run (by simp [execOp, h1]) (hn z w' h2)
      · exact h.elim
    · exact quiet (by simpa [fl] using h)
  · rename_i c
    obtain ⟨callee, args, argTypes⟩ := c
    simp only at h
    split at h
    · rename_i f
      have hl : (args.toList.map (ev tm)).length = (args.toList.map a.eval).length := by simp
      obtain ⟨g, cs, h1, h2, h3⟩ := callK_sound hT hI (E f) (us := args.toList.map a.eval) (fun i hi => by
        have hi' : i < args.toList.length := by simpa using hi
        simp only [List.getD_eq_getElem?_getD, List.getElem?_map, List.getElem?_eq_getElem hi', Option.map_some, Option.getD_some]
        exact E _) hl hH h
      have he : (args.toList.map a.eval).toArray = args.map a.eval := by rw [← Array.toList_inj, Array.toList_map]
      rw [he] at h3
      unfold Oper.wp
      have hrun : (execOp a.eval ⟨dst, .call ⟨.value f, args, argTypes⟩, type, pos, after, guard⟩).run P w = .ok (.enter g (args.map a.eval ++ cs)) w := by
        simp [execOp, resolve, h1, Deferred.ofValue, invoke, h2.run]
      rw [hrun, Oper.upon_enter]
      refine Calls.mono h3 ?_
      rintro e w' ⟨v, rfl, hg⟩
      exact hn v w' hg
    · split at h
      · rename_i s x t t' ha ht'
        split at h
        · rename_i hb
          have hb := Nat.eq_of_beq_eq_true hb
          subst hb
          have e1 : args = #[s, x] := by rw [← Array.toList_inj]; simpa using ha
          have e2 : argTypes = #[t, t] := by rw [← Array.toList_inj]; simpa using ht'
          subst e1 e2
          obtain ⟨z, w', h1, h2⟩ := append_sound (P := P) (ty := type) hH (E s) (E x) h
          exact wp_of_run (by simp [execOp, resolve, invoke, Go.builtin, h1]) (hn z w' h2)
        · have e1 : args = #[s, x] := by rw [← Array.toList_inj]; simpa using ha
          have e2 : argTypes = #[t, t'] := by rw [← Array.toList_inj]; simpa using ht'
          subst e1 e2
          obtain ⟨z, w', h1, h2⟩ := appendZ_sound (P := P) (ty := type) hH (E s) (E x) h
          exact wp_of_run (by simp [execOp, resolve, invoke, Go.builtin, h1]) (hn z w' h2)
      · exact h.elim
    · split at h
      · rename_i d x t t' ha ht'
        have e1 : args = #[d, x] := by rw [← Array.toList_inj]; simpa using ha
        have e2 : argTypes = #[t, t'] := by rw [← Array.toList_inj]; simpa using ht'
        subst e1 e2
        obtain ⟨z, w', h1, h2⟩ := copy_sound (P := P) (sT := t') (ty := type) hH (E d) (E x) h
        exact wp_of_run (by simp [execOp, resolve, invoke, Go.builtin, h1]) (hn z w' h2)
      · exact h.elim
    · split at h
      · rename_i d t ha ht'
        have e1 : args = #[d] := by rw [← Array.toList_inj]; simpa using ha
        have e2 : argTypes = #[t] := by rw [← Array.toList_inj]; simpa using ht'
        subst e1 e2
        obtain ⟨w', h1, h2⟩ := clear_sound (P := P) (ty := type) hH (E d) h
        exact wp_of_run (by simp [execOp, resolve, invoke, Go.builtin, h1]) (hn undef w' h2)
      · exact h.elim
    · exact quiet h
  · exact quiet h
end
end Sx
