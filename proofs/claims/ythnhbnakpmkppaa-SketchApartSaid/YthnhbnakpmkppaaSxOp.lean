/- A law's arguments, read off their data: numbers, structs of numbers, rows of these. -/
import Derived.Test.YthnhbnakpmkppaaSx4
import Derived.ChangeArms
import Derived.DataReads
import Derived.WideShapes
set_option linter.all false
namespace Sx
open Go
def kdOf : L → Kd
  | .b _ => .b
  | .i k _ => .i k
  | .s _ => .s
def flatF (f : TypeId → Option (List Kd)) (size : TypeId → Nat) : List Field → Nat → Option (List Kd)
  | [], _ => some []
  | fd :: fs, o => match f fd.type with
    | some ks => match Nat.beq fd.offset o && Nat.beq (size fd.type) ks.length, flatF f size fs (o + ks.length) with
      | true, some ks' => some (ks ++ ks')
      | _, _ => none
    | none => none
/-- The scalars of a type's value, as they are laid. -/
def flatK (P : Program) : Nat → TypeId → Option (List Kd)
  | 0, _ => none
  | n + 1, t => match P.underlying t with
    | some .bool => some [.b]
    | some (.int k) => some [.i k]
    | some .string => some [.s]
    | some (.struct fs) => match flatF (flatK P n) P.cellsOf fs.toList 0 with
      | some ks => match Nat.beq ks.length (P.cellsOf t) with
        | true => some ks
        | false => none
      | none => none
    | _ => none
section
variable {H : Type} {enc : TypeId × Value → H} {P : Program} {w : World} {base : Nat} {sp : Nat → Bool} {held : Bool}
theorem wf_int {k : IntKind} {n : Int} (h : (Lit.int k n).wf = true) : lo k ≤ n ∧ n ≤ hi k := by
  simp only [Lit.wf, Bool.and_eq_true, decide_eq_true_eq] at h
  cases k <;> exact h
theorem flatF_open {f : TypeId → Option (List Kd)} {tr : TypeId → List Value → Option (DataW H × List MemPlace)} {cs : List Value} (hf : ∀ t ks cs y, f t = some ks → tr t cs = some y → ∃ ls : List L, cs = ls.map L.val ∧ ls.map kdOf = ks ∧ ∀ l ∈ ls, l.wf) :
    ∀ (fs : List Field) (o : Nat) (ks : List Kd), flatF f P.cellsOf fs o = some ks → (∀ fd ∈ fs, ∃ y, tr fd.type ((cs.drop fd.offset).take (P.cellsOf fd.type)) = some y) → ∃ ls : List L, (cs.drop o).take ks.length = ls.map L.val ∧ ls.map kdOf = ks ∧ ∀ l ∈ ls, l.wf
  | [], o, ks, h, _ => by
    simp only [flatF, Option.some.injEq] at h
    subst h
    exact ⟨[], by simp, rfl, by simp⟩
  | fd :: fs, o, ks, h, hx => by
    simp only [flatF] at h
    split at h
    · rename_i k1 h1
      split at h
      · rename_i k2 hb h2
        simp only [Bool.and_eq_true] at hb
        have e1 := Nat.eq_of_beq_eq_true hb.1
        have e2 := Nat.eq_of_beq_eq_true hb.2
        cases h
        obtain ⟨y, hy⟩ := hx fd (by simp)
        obtain ⟨l1, p1, p2, p3⟩ := hf _ _ _ _ h1 hy
        obtain ⟨l2, q1, q2, q3⟩ := flatF_open hf fs _ _ h2 fun g hg => hx g (by simp [hg])
        refine ⟨l1 ++ l2, ?_, by simp [p2, q2], fun l hl => (List.mem_append.1 hl).elim (p3 l) (q3 l)⟩
        rw [e1, e2] at p1
        rw [List.length_append, List.take_add, List.map_append, p1, List.drop_drop, q1]
      · cases h
    · cases h
theorem open_flat : ∀ (n : Nat) (t : TypeId) (ks : List Kd) (fuel : Nat) (cs : List Value) (x : DataW H × List MemPlace), flatK P n t = some ks → DataW.trod enc P w base sp held fuel t cs = some x → ∃ ls : List L, cs = ls.map L.val ∧ ls.map kdOf = ks ∧ ∀ l ∈ ls, l.wf
  | 0, _, _, _, _, _, h, _ => by simp [flatK] at h
  | n + 1, t, ks, fuel, cs, x, h, hx => by
    simp only [flatK] at h
    split at h
    · rename_i ht
      cases h
      obtain ⟨b, rfl, _⟩ := DataW.trod_bool ht hx
      exact ⟨[.b b], rfl, rfl, by simp [L.wf]⟩
    · rename_i k ht
      cases h
      obtain ⟨m, rfl, _, hw⟩ := DataW.trod_int ht hx
      exact ⟨[.i k m], rfl, rfl, by simpa [L.wf] using wf_int hw⟩
    · rename_i ht
      cases h
      obtain ⟨s, rfl, _, _⟩ := DataW.trod_string ht hx
      refine ⟨[.s (s.data.toList.map fun c => (c.toNat : Int))], by simp [L.val, toBA_bytes], rfl, ?_⟩
      intro l hl
      cases List.mem_singleton.1 hl
      exact okS_bytes s
    · rename_i fs ht
      split at h
      · rename_i ks' hk
        split at h
        · rename_i hb
          have hb := Nat.eq_of_beq_eq_true hb
          cases h
          obtain ⟨xs, m, rfl, _, hl, hn, hf⟩ := DataW.trod_struct ht hx
          obtain ⟨ls, p1, p2, p3⟩ := flatF_open (P := P) (cs := cs) (tr := fun t cs => DataW.trod enc P w base sp held m t cs) (fun t ks cs y => open_flat n t ks m cs y) fs.toList 0 ks hk (fun fd hfd => by
            obtain ⟨i, hi, e⟩ := List.getElem_of_mem hfd
            have hi' : i < fs.size := by simpa using hi
            have := hf i fd (by rw [Array.getElem?_eq_getElem hi']; congr 1)
            rw [this, List.getElem?_eq_getElem (by omega)]
            exact ⟨_, rfl⟩)
          refine ⟨ls, ?_, p2, p3⟩
          rw [← p1, List.drop_zero, hb, ← hl, List.take_length]
        · cases h
      · cases h
    · cases h
theorem addr_add {a : Addr} (h : a.spot = none) (m n : Nat) : (a.add m).add n = a.add (m + n) := by
  obtain ⟨b, o, sp⟩ := a
  simp only at h
  subst h
  unfold Addr.add
  by_cases h1 : m = 0
  · subst h1; simp
  · by_cases h2 : n = 0
    · subst h2; simp
    · simp [h1, h2, Nat.add_assoc]
theorem tup_of : ∀ (ks : List Kd) (ls : List L), ls.map kdOf = ks → ∃ x : Tup ks, leafs ks x = ls
  | [], [], _ => ⟨(), rfl⟩
  | [k], [l], h => by
    simp only [List.map_cons, List.map_nil, List.cons.injEq, and_true] at h
    subst h
    cases l with
    | b x => exact ⟨x, rfl⟩
    | i k n => exact ⟨n, rfl⟩
    | s xs => exact ⟨xs, rfl⟩
  | k :: k' :: ks, l :: ls, h => by
    simp only [List.map_cons, List.cons.injEq] at h
    obtain ⟨h1, h2⟩ := h
    obtain ⟨y, hy⟩ := tup_of (k' :: ks) ls h2
    subst h1
    cases l with
    | b x => exact ⟨(x, y), by simp [leafs, hy, kdOf, Kd.leaf]⟩
    | i k n => exact ⟨(n, y), by simp [leafs, hy, kdOf, Kd.leaf]⟩
    | s xs => exact ⟨(xs, y), by simp [leafs, hy, kdOf, Kd.leaf]⟩
  | [], _ :: _, h => by simp at h
  | _ :: _, [], h => by simp at h
  | [_], _ :: _ :: _, h => by simp at h
theorem list_of {α : Type} {p : Nat → α → Prop} : ∀ (n : Nat), (∀ i, i < n → ∃ a, p i a) → ∃ xs : List α, xs.length = n ∧ ∀ i x, xs[i]? = some x → p i x
  | 0, _ => ⟨[], rfl, by simp⟩
  | n + 1, h => by
    obtain ⟨xs, h1, h2⟩ := list_of n fun i hi => h i (by omega)
    obtain ⟨a, ha⟩ := h n (by omega)
    refine ⟨xs ++ [a], by simp [h1], fun i x hx => ?_⟩
    rw [List.getElem?_append] at hx
    split at hx
    · exact h2 i x hx
    · rename_i hi
      have : i = n := by
        rcases Nat.lt_or_ge i (n + 1) with h | h
        · omega
        · rw [List.getElem?_eq_none (by simp; omega)] at hx; cases hx
      subst this
      rw [h1, Nat.sub_self] at hx
      cases hx
      exact ha
/-- A row of flat elements. -/
theorem open_rowF {t e : TypeId} {r : Reach} {b0 : Nat} {n : Nat} {ks : List Kd} {v : Value} {d : DataW H} {ps : List MemPlace} (ht : P.underlying t = some (.slice e)) (hk : flatK P n e = some ks) (hc : P.cellsOf e = ks.length) (hpos : 0 < ks.length)
    (hv : Value.okWide P w r b0 t v) (hd : DataW.Trod enc P w base sp held t v d ps) : ∃ xs : List (Tup ks), wfT ks xs ∧ RoOK w v (.row false ks xs) := by
  obtain ⟨a, len, cap, rfl⟩ := WideShapes.okWide_slice ht hv
  have hvc : Cell.ok P w r b0 t (.slice a len cap) := by
    simp only [Value.okWide, ht, Cell.okWide] at hv
    exact hv
  obtain ⟨fuel, hd⟩ := hd
  rcases DataW.trod_slice ht hd with ⟨h0, _⟩ | ⟨a', len', cap', elems, rest, m, _, hcs, _, _, hl, hm, hlen, hel, _⟩
  · simp [Value.cells] at h0
    obtain ⟨rfl, rfl, rfl⟩ := h0
    exact ⟨[], fun x hx => by simp at hx, ks, [], none, 0, rfl, hpos, fun x hx => by simp at hx, rfl, ⟨⟨Nat.le_refl _, Nat.zero_le _⟩, nofun, fun _ => rfl⟩, fun j u hj => by simp [flat] at hj⟩
  · simp [Value.cells] at hcs
    obtain ⟨rfl, rfl, rfl⟩ := hcs
    have hspot : a'.spot = none := by
      simp only [Cell.ok, ht] at hvc
      exact hvc.2.2.2.1
    obtain ⟨xs, x1, x2⟩ := list_of (p := fun i (x : Tup ks) => (∀ l ∈ leafs ks x, l.wf) ∧ ∀ j, j < ks.length → w.cell? ((a'.add (i * ks.length)).add j) = ((leafs ks x).map L.val)[j]?) len fun i hi => by
      have h1 := hel i hi
      rw [List.getElem?_eq_getElem (by omega), Option.bind_eq_some_iff] at h1
      obtain ⟨cs, hcs, htr⟩ := h1
      obtain ⟨ls, p1, p2, p3⟩ := open_flat n e ks _ _ _ hk htr
      obtain ⟨x, hx⟩ := tup_of ks ls p2
      obtain ⟨_, _, q3⟩ := World.cells?_some hcs
      refine ⟨x, by rw [hx]; exact p3, fun j hj => ?_⟩
      rw [hc] at q3
      rw [q3 j hj, p1, hx]
    have hw : wfT ks xs := fun x hx l hl => by
      obtain ⟨i, hi, e⟩ := List.getElem_of_mem hx
      exact (x2 i x (by rw [List.getElem?_eq_getElem hi, e])).1 l hl
    refine ⟨xs, hw, ks, xs, some a', cap, rfl, hpos, hw, by rw [x1], ⟨⟨by omega, hm⟩, fun x hx => by cases hx; exact hspot, nofun⟩, fun j u hj => ⟨a', rfl, ?_⟩⟩
    have hjl : j < xs.length * ks.length := by
      have := (List.getElem?_eq_some_iff.1 hj).1
      rwa [flat_length] at this
    have hi : j / ks.length < xs.length := Nat.div_lt_of_lt_mul (by rwa [Nat.mul_comm])
    have hr : j % ks.length < ks.length := Nat.mod_lt _ hpos
    have hje : j / ks.length * ks.length + j % ks.length = j := by rw [Nat.mul_comm]; exact Nat.div_add_mod _ _
    have h2 := flat_get ks xs (j / ks.length) (j % ks.length) hi hr
    rw [hje, hj] at h2
    have h3 := (x2 (j / ks.length) _ (List.getElem?_eq_getElem hi)).2 (j % ks.length) hr
    have e : (a'.add (j / ks.length * ks.length)).add (j % ks.length) = a'.add j := by
      rw [addr_add hspot, hje]
    rw [e] at h3
    rw [h3, h2]
    rw [List.getD_eq_getElem?_getD, List.getElem?_eq_getElem hi]
    rfl
/-- A struct of flat fields. -/
theorem open_agg {t : TypeId} {fs : Array Field} {r : Reach} {b0 : Nat} {n : Nat} {ks : List Kd} {v : Value} {d : DataW H} {ps : List MemPlace} (ht : P.underlying t = some (.struct fs)) (hk : flatK P n t = some ks)
    (hv : Value.okWide P w r b0 t v) (hd : DataW.Trod enc P w base sp held t v d ps) : ∃ x : Tup ks, v = .agg ((leafs ks x).map L.val).toArray ∧ ∀ l ∈ leafs ks x, l.wf := by
  simp only [Value.okWide, ht] at hv
  obtain ⟨cs, rfl, _, _⟩ := hv
  obtain ⟨fuel, hd⟩ := hd
  obtain ⟨ls, p1, p2, p3⟩ := open_flat n t ks _ _ _ hk hd
  obtain ⟨x, hx⟩ := tup_of ks ls p2
  refine ⟨x, ?_, by rw [hx]; exact p3⟩
  have : cs.toList = ls.map L.val := by simpa [Value.cells] using p1
  rw [hx, ← this]
/-- A scalar. -/
theorem open_scal {t : TypeId} {k : Kd} {v : Value} {d : DataW H} {ps : List MemPlace} (hv1 : v.cells = #[v]) (hk : flatK P 1 t = some [k]) (hd : DataW.Trod enc P w base sp held t v d ps) : ∃ l : L, v = l.val ∧ kdOf l = k ∧ l.wf := by
  obtain ⟨fuel, hd⟩ := hd
  obtain ⟨ls, p1, p2, p3⟩ := open_flat 1 t [k] _ _ _ hk hd
  cases ls with
  | nil => simp at p2
  | cons l ls =>
    cases ls with
    | nil =>
      refine ⟨l, ?_, by simpa using p2, p3 l (by simp)⟩
      rw [hv1] at p1
      simpa using p1
    | cons _ _ => simp at p2
theorem relAs_leafs {ν : Nu} {N : Nat} : ∀ (ls : List L), (∀ l ∈ ls, l.wf) → relAs ν N (ls.map A.l) (ls.map L.val)
  | [], _ => trivial
  | l :: ls, h => ⟨⟨⟨h l (by simp), rfl⟩, by cases l <;> rfl⟩, relAs_leafs ls fun k hk => h k (by simp [hk])⟩
theorem rel_agg {ν : Nu} {N : Nat} {ks : List Kd} {x : Tup ks} (h : ∀ l ∈ leafs ks x, l.wf) : relV ν N (.agg ((leafs ks x).map A.l)) (.agg ((leafs ks x).map L.val).toArray) := ⟨_, rfl, relAs_leafs _ h⟩
end
end Sx
