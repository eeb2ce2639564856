/- A symbolic walk: what an operation looks at. -/
import Derived.Test.YtcilcmbailoeaaaSxS
set_option linter.all false
namespace Sx
open Go
section
variable {P : Program} {T : FuncId → Option Con} {inl : FuncId → List V → Hp → Nat → (R → Hp → Nat → Prop) → Prop} {tm tm' : List R} {H H' : Hp}
theorem map_ev {xs : Array Operand} (h : ∀ x ∈ xs, ev tm x = ev tm' x) : xs.toList.map (ev tm) = xs.toList.map (ev tm') := List.map_congr_left fun x hx => h x (by simpa using hx)
theorem map_parts {ps : Array (Nat × Operand)} (h : ∀ x ∈ (ps.toList.map (·.2)).toArray, ev tm x = ev tm' x) : (ps.toList.map fun q => (q.1, ev tm q.2)) = ps.toList.map fun q => (q.1, ev tm' q.2) :=
  List.map_congr_left fun q hq => by rw [h q.2 (by simp; exact ⟨q.1, by simpa using hq⟩)]
theorem map_opt {x : Option Operand} (h : ∀ y ∈ x.toArray, ev tm y = ev tm' y) : x.map (ev tm) = x.map (ev tm') := by
  cases x with
  | none => rfl
  | some y => simp [h y (by simp)]
theorem fl_congr {op : Op} (h : ∀ x ∈ op.operands, ev tm x = ev tm' x) : fl P tm H op = fl P tm' H op := by
  cases op <;> simp only [Op.operands] at h <;> simp only [fl]
  case build t ps => rw [map_parts h]
  case makeFunc f first captured =>
    cases f <;> simp only [fl]
    rw [map_ev fun x hx => h x (by simp [hx])]
  case slice t x l hi m =>
    cases m with
    | some m =>
      cases l with
      | some l => rfl
      | none =>
        cases hi with
        | none => rfl
        | some hi => simp only; rw [h x (by simp), h hi (by simp), h m (by simp)]
    | none => simp only [fl]; rw [h x (by simp), map_opt fun y hy => h y (by simp at hy ⊢; exact .inr (.inl hy)), map_opt fun y hy => h y (by simp at hy ⊢; exact .inr (.inr hy))]
  case call c =>
    obtain ⟨callee, args, argTypes⟩ := c
    simp only [Call.operands] at h
    have ha : ∀ x ∈ args, ev tm x = ev tm' x := fun x hx => h x (by simp [hx])
    cases callee with
    | value f => rfl
    | invoke r m => rfl
    | builtin b =>
      cases b <;> first | rfl | skip
      · simp only
        cases hl : args.toList with
        | nil => rfl
        | cons x xs =>
          cases xs with
          | cons y ys => rfl
          | nil =>
            cases argTypes.toList with
            | nil => rfl
            | cons t ts => simp only; rw [ha x (by rw [← Array.mem_toList_iff, hl]; simp)]
      · simp only
        cases hl : args.toList with
        | nil => rfl
        | cons x xs =>
          cases xs with
          | cons y ys => rfl
          | nil =>
            cases argTypes.toList with
            | nil => rfl
            | cons t ts => simp only; rw [ha x (by rw [← Array.mem_toList_iff, hl]; simp)]
      · simp only; rw [map_ev ha]
      · simp only; rw [map_ev ha]
  all_goals (first | rfl | (simp_all; done))
theorem opK_congr {op : Op} {nx : Nat} {K : R → Hp → Nat → Prop} (h : ∀ x ∈ op.operands, ev tm x = ev tm' x) : opK P T inl tm H nx op K = opK P T inl tm' H nx op K := by
  have hf := fl_congr (P := P) (H := H) h
  cases op <;> simp only [opK]
  case call c =>
    obtain ⟨callee, args, argTypes⟩ := c
    simp only [Op.operands, Call.operands] at h
    have ha : ∀ x ∈ args, ev tm x = ev tm' x := fun x hx => h x (by simp [hx])
    have hl : ∀ x xs, args.toList = x :: xs → ev tm x = ev tm' x := fun x xs e => ha x (by rw [← Array.mem_toList_iff, e]; simp)
    have hl2 : ∀ x y xs, args.toList = x :: y :: xs → ev tm y = ev tm' y := fun x y xs e => ha y (by rw [← Array.mem_toList_iff, e]; simp)
    cases callee with
    | value f => simp only; rw [map_ev ha, h f (by simp)]
    | invoke r m => simp only; rw [hf]
    | builtin b =>
      cases b <;> simp only <;> first | rw [hf] | skip
      all_goals
        split <;> first | rfl | skip
        rename_i e1 e2
        first | rw [hl _ _ e1, hl2 _ _ _ e1] | rw [hl _ _ e1]
  case buildSlice t n ps =>
    simp only [Op.operands] at h
    rw [map_parts h]
  case convert s d x => rw [h x (by simp [Op.operands])]
  case binOp op t x y q => rw [h x (by simp [Op.operands]), hf]
  case store t a x => rw [h a (by simp [Op.operands]), h x (by simp [Op.operands])]
  case makeSlice t a x => rw [h a (by simp [Op.operands]), h x (by simp [Op.operands])]
  case box t x => rw [h x (by simp [Op.operands])]
  all_goals (first | rfl | (rw [hf]; done))
theorem content_heap {a : A} {q : Bool × (ks : List Kd) × List (Tup ks)} (hk : ∀ l o, heapOf.tgt' a = some l → hget H l = some o → hget H' l = some o) (h : content H a = some q) : content H' a = some q := by
  cases a <;> simp only [content] at h ⊢ <;> first | cases h | skip
  all_goals
    split at h
    · rename_i hg
      rw [hk _ _ rfl hg]
      exact h
    · cases h
theorem bytesOf_heap {a : A} {xs : List Int} (hk : ∀ l o, heapOf.tgt' a = some l → hget H l = some o → hget H' l = some o) (h : bytesOf H a = some xs) : bytesOf H' a = some xs := by
  unfold bytesOf at h ⊢
  split at h
  · exact h
  · exact h
  · split at h
    · rename_i hc
      cases h
      rw [content_heap hk hc]
    · cases h
theorem fl_heap {op : Op} {r : R} (h : (fl P tm H op).Out r) (hk : ∀ l o, heapOf tm op = some l → hget H l = some o → hget H' l = some o) : (fl P tm H' op).Out r := by
  cases op <;> simp only [fl] at h ⊢ <;> first | exact h | skip
  case makeFunc f first captured => cases f <;> exact h
  case slice t x l hi m =>
    cases m with
    | none => exact h
    | some m => cases l <;> cases hi <;> exact h
  case load t x =>
    simp only [heapOf] at hk
    generalize ev tm x = v at h hk ⊢
    unfold load at h ⊢
    split at h
    · split at h
      · rename_i hg
        simp only at hk ⊢
        rw [hk _ _ rfl hg]
        exact h
      · exact h.elim
    · split at h
      · rename_i hg
        simp only at hk ⊢
        rw [hk _ _ rfl hg]
        exact h
      · exact h.elim
    · exact h.elim
  case convert s d x =>
    simp only [heapOf] at hk
    generalize ev tm x = v at h hk ⊢
    unfold convert at h ⊢
    split at h
    · exact h
    · exact h
    · split at h
      · rename_i hu hb
        simp only at hk ⊢
        rw [hu, bytesOf_heap hk hb]
        exact h
      · exact h.elim
    · exact h.elim
end
end Sx
