/- A symbolic walk: operations that turn something. -/
import Derived.Test.YtcilcmbailoeaaaSxJ
set_option linter.all false
namespace Sx
open Go
theorem setAtV_append_left : ∀ (us a b : List Value) (o : Nat), o + us.length ≤ a.length → setAtV (a ++ b) o us = setAtV a o us ++ b
  | [], _, _, _, _ => rfl
  | u :: us, a, b, o, h => by
    have ho : o < a.length := by simp at h; omega
    rw [setAtV, setAtV, List.set_append_left o u ho, setAtV_append_left us (a.set o u) b (o + 1) (by simp at h ⊢; omega)]
theorem setAtV_append_right : ∀ (us a b : List Value) (o : Nat), setAtV (a ++ b) (a.length + o) us = a ++ setAtV b o us
  | [], _, _, _ => rfl
  | u :: us, a, b, o => by
    rw [setAtV, setAtV, List.set_append_right _ _ (by omega), Nat.add_sub_cancel_left, Nat.add_assoc, setAtV_append_right us a (b.set o u) (o + 1)]
theorem flat_cons (ks : List Kd) (x : Tup ks) (xs : List (Tup ks)) : flat ks (x :: xs) = (leafs ks x).map L.val ++ flat ks xs := rfl
theorem flat_set {ks : List Kd} {us : List Value} {o : Nat} {y : Tup ks} : ∀ {xs : List (Tup ks)} {i : Nat}, i < xs.length → o + us.length ≤ ks.length → (leafs ks y).map L.val = setAtV ((leafs ks (xs.getD i (zT ks))).map L.val) o us →
    flat ks (xs.set i y) = setAtV (flat ks xs) (i * ks.length + o) us
  | x :: xs, 0, _, ho, h => by
    rw [List.set_cons_zero, flat_cons, flat_cons, h, Nat.zero_mul, Nat.zero_add, setAtV_append_left _ _ _ _ (by simpa [leafs_length] using ho)]
    rfl
  | x :: xs, i + 1, hi, ho, h => by
    have ih := flat_set (xs := xs) (i := i) (by simpa using hi) ho (by simpa using h)
    have e : (i + 1) * ks.length + o = ((leafs ks x).map L.val).length + (i * ks.length + o) := by rw [List.length_map, leafs_length, Nat.succ_mul]; omega
    rw [List.set_cons_succ, flat_cons, flat_cons, ih, e, setAtV_append_right]
section
variable {P : Program} {ν : Nu} {N : Nat} {w : World} {H : Hp} {K : R → Hp → Nat → Prop}
theorem relR_unit : relR ν N .unit undef := ⟨#[], rfl, trivial⟩
theorem alloc_sound (hH : hpH ν N w H) {t : TypeId} {z : List A} (hz : zatoms P t = some z) (h : K (.a (.p N 0)) ((N, N, .cells z) :: H) (N + 1)) :
    ∃ v w', (Instr.alloc t true (.tuple #[])).run P w = .ok v w' ∧ Goes ν N H w K v w' := by
  obtain ⟨i, v, h1, h2, h3⟩ := zatoms_some (ν := ν) (N := N) hz
  refine ⟨_, _, ?_, newCells hH t h3 h⟩
  simp [Instr.alloc, zeroValue, typeInfo, h1, h2, newVar, Go.newRow, newObj]
  rfl
theorem box_sound (hH : hpH ν N w H) {t : TypeId} {x : V} {u : Value} {vs : List A} (hx : relV ν N x u) (ha : asCells x = some vs) (h : K (.a (.p N 0)) ((N, N, .cells vs) :: H) (N + 1)) :
    ∃ v w', (Instr.box t u).run P w = .ok v w' ∧ Goes ν N H w K v w' := by
  refine ⟨_, _, ?_, newCells hH t (asCells_rel hx ha) h⟩
  simp [Instr.box, newVar, Go.newRow, newObj]
  rfl
theorem relAs_one : ∀ {as : List A} {vs : List Value}, relAs ν N as vs → ∀ v ∈ vs, v.oneCell' = true
  | _ :: _, _ :: _, h, v, hv => by
    rcases List.mem_cons.1 hv with rfl | hv
    · exact h.1.2
    · exact relAs_one h.2 v hv
  | [], _ :: _, h, _, _ => h.elim
/-- Cells written into a block that is known. -/
theorem storeVar_run {t : TypeId} {b o : Nat} {cur : Array Value} {T : TypeId} {z : Value} {us : List Value} (hb : w.heap[b]? = some (.cells cur T (0, 0))) (hz : z.cells.toList = us) (ht : P.cellsOf t = us.length) (h1 : 1 ≤ us.length)
    (hfit : o + us.length ≤ cur.size) (hone : ∀ v ∈ us, v.oneCell' = true) :
    (Instr.storeAt t (.pointer (some ⟨b, o, none⟩)) z).run P w = .ok () (w.setRow b (setAtV cur.toList o us).toArray) := by
  have hs : (Go.sizeOf t).run P w = .ok (P.cellsOf t) w := run_size1 (Nat.ble_eq_true_of_le (by omega))
  have hl : z.cells.size = us.length := by rw [← hz]; simp
  have := run_storeCells_at P b o T us 0 cur w hb (by simpa using hfit) hone
  rw [setAtV_eq us cur.toList o (by simpa using hfit)]
  simp only [Nat.add_zero] at this
  simp only [Instr.storeAt, Instr.sureAddr, storeVar, Sem.run_bind, Sem.run_pure, Result.andThen_ok, hs, hl, ht, ne_eq, not_true_eq_false, if_false, hz, this]
theorem go_setRow {F : Nat → Prop} {b : Nat} {cs : Array Value} (hb : F b) : Go1 F w (w.setRow b cs) := ⟨rfl, rfl, rfl, by simp [World.setRow], fun k _ hk => setRow_other w b k cs fun e => hk (e ▸ hb)⟩
theorem store_sound (hH : hpH ν N w H) {t : TypeId} {x v : R} {u z : Value} (hx : relR ν N x u) (hv : relR ν N v z) (h : store P H N t x v fun H => K .unit H (N + 1)) :
    ∃ w', (Instr.storeAt t u z).run P w = .ok () w' ∧ Goes ν N H w K undef w' := by
  unfold store at h
  split at h
  · rename_i v
    split at h
    · exact h.elim
    · rename_i vs ha
      split at h
      · exact h.elim
      · rename_i hsz
        simp only [Bool.and_eq_true] at hsz
        have hsz1 := Nat.eq_of_beq_eq_true hsz.1
        have hsz2 := Nat.le_of_ble_eq_true hsz.2
        have hr := asCells_rel hv ha
        have hl := relAs_length hr
        split at h
        · rename_i l o
          obtain ⟨hl', rfl⟩ := hx
          split at h
          · rename_i cs hg
            split at h
            · rename_i hin
              have hin := Nat.le_of_ble_eq_true hin
              obtain ⟨h1, vals, T, h2, h3⟩ := (hH.ob _ _ hg).2
              have hl3 := relAs_length h3
              simp only [Array.length_toList] at hl3
              refine ⟨_, storeVar_run h2 rfl (by omega) (by omega) (by omega) (relAs_one hr), setOwn (o' := .cells (setAt cs o vs)) hH hg rfl (fun b hb => hb) (go_setRow ((h1 _).2 rfl)) ?_ relR_unit h⟩
              refine ⟨h1, _, T, setRow_heap w _ vals _ T _ h2, ?_⟩
              exact relAs_mono (fun _ _ => ⟨rfl, rfl⟩) (Nat.le_succ N) (by simpa using relAs_setAt o h3 hr)
            · exact h.elim
          · exact h.elim
        · rename_i l zz i o
          obtain ⟨hl', b, off, n, cap, hsv, hi, rfl⟩ := hx
          split at h
          · rename_i ks xs hg
            split at h
            · rename_i ls hzz hin hsc
              split at h
              · rename_i y hun
                have hzz := Nat.eq_of_beq_eq_true hzz
                subst hzz
                have hin := Nat.le_of_ble_eq_true hin
                obtain ⟨hk, hw, hfp, e, hown⟩ := (hH.ob _ _ hg).2
                rcases hown.2 with ⟨h4, h5⟩ | ⟨g, cap', cur, h4, h5, h6, h7, h8, h9, h10⟩
                · rw [h4] at hsv; cases hsv
                rw [hsv] at h4
                obtain ⟨h11, rfl, rfl⟩ := slice_inj h4
                cases h11
                have hc := relAs_cellsAt (ν := ν) (N := N) hw hi
                have hset := relAs_setAt o hc hr
                rw [mapO_scal hsc] at hset
                obtain ⟨hvals, hwf⟩ := lits_rel hset
                have hly := leafs_un hun
                have hflat : flat ks (xs.set i y) = setAtV (flat ks xs) (i * ks.length + o) z.cells.toList := flat_set hi (by omega) (by rw [hly, hvals])
                have hb1 : i * ks.length + ks.length ≤ xs.length * ks.length := by rw [← Nat.succ_mul]; exact Nat.mul_le_mul_right _ hi
                have hb2 : xs.length * ks.length ≤ cur.size := by rw [h9]; exact Nat.mul_le_mul_right _ h7
                have hlz : z.cells.toList.length = vs.length := hl.symm
                simp only [Nat.zero_add]
                refine ⟨_, storeVar_run h6 rfl (by omega) (by omega) (by omega) (relAs_one hr), setOwn (o' := .row true ks (xs.set i y)) hH hg rfl (fun b hb => hb) (go_setRow ((hfp b).2 (by rw [hsv]; rfl))) ?_ relR_unit h⟩
                refine ⟨hk, ?_, hfp, e, ?_⟩
                · intro x hx
                  rcases List.mem_or_eq_of_mem_set hx with hx | rfl
                  · exact hw x hx
                  · rw [hly]; exact hwf
                · refine ⟨by rw [flat_length],   .inr ⟨b, cap, _, ?_, h5, setRow_heap w b cur _ e _ h6, by rw [List.length_set]; exact h7, h8, ?_, ?_⟩⟩
                  · rw [hsv, List.length_set]
                  · simp [setAtV_length, h9]
                  · rw [List.length_set, hflat, ← h10]
                    have e1 := List.take_append_drop (xs.length * ks.length) cur.toList
                    have e2 : (cur.toList.take (xs.length * ks.length)).length = xs.length * ks.length := by have e3 : cur.toList.length = cur.size := Array.length_toList; rw [List.length_take]; omega
                    conv => lhs; rw [← e1]
                    simp only []
                    rw [setAtV_append_left _ _ _ _ (by rw [e2]; omega), List.take_left' (by rw [setAtV_length, e2])]
              · exact h.elim
            · exact h.elim
          · exact h.elim
        · exact h.elim
  · exact h.elim
theorem elemT_slice {t e : TypeId} (h : elemT P t = some e) : P.underlying t = some (.slice e) := elemT_some h
theorem zkind_val : ∀ {v : Value} {k : Kd}, zkind v = some k → v = (k.leaf k.zero).val := by
  intro v k h
  unfold zkind at h
  split at h
  · cases h; rfl
  · cases h; rfl
  · rename_i s
    split at h
    · rename_i hs
      cases h
      have : s = ByteArray.empty := by
        cases s with
        | mk d => simp [ByteArray.size] at hs; subst hs; rfl
      subst this
      rfl
    · cases h
  · cases h
theorem kinds_zero : ∀ {cs : List Value} {ks : List Kd}, mapO zkind cs = some ks → cs = (leafs ks (zT ks)).map L.val
  | [], ks, h => by cases h; rfl
  | c :: cs, ks, h => by
    simp only [mapO] at h
    split at h
    · rename_i k ks' h1 h2
      cases h
      have ih := kinds_zero h2
      cases ks' with
      | nil =>
        simp only [leafs, List.map_nil] at ih
        subst ih
        rw [zkind_val h1]
        rfl
      | cons k' ks =>
        rw [zkind_val h1, ih]
        rfl
    · cases h
theorem rowT_some {e : TypeId} {ks : List Kd} (h : rowT P e = some ks) : ∃ i z, P.info? e = some i ∧ i.zero = some z ∧ i.size = ks.length ∧ 0 < ks.length ∧ z.cells.toList = (leafs ks (zT ks)).map L.val ∧ z.cells.size = ks.length ∧ P.cellsOf e = ks.length := by
  unfold rowT at h
  split at h
  · rename_i ks' hk
    split at h
    · rename_i hc
      cases h
      simp only [Bool.and_eq_true] at hc
      have h1 := Nat.eq_of_beq_eq_true hc.1
      have h2 := Nat.le_of_ble_eq_true hc.2
      unfold kindsT at hk
      split at hk
      · rename_i cs hcs
        obtain ⟨i, z, h3, h4, rfl⟩ := zcells_some hcs
        have h5 := kinds_zero hk
        have h6 : z.cells.size = ks.length := by have := congrArg List.length h5; simpa [leafs_length] using this
        refine ⟨i, z, h3, h4, ?_, by omega, h5, h6, h1.symm⟩
        have : P.cellsOf e = i.size := by simp [Program.cellsOf, h3]
        omega
      · cases hk
    · cases h
  · cases h
theorem wf_zero (ks : List Kd) : ∀ l ∈ leafs ks (zT ks), l.wf := by
  have h1 : ∀ k : Kd, (k.leaf k.zero).wf := fun k => by
    cases k with
    | i k => exact ⟨lo_le k, hi_ge k⟩
    | b => trivial
    | s => simp [L.wf, Kd.leaf, Kd.zero, okS]
  induction ks with
  | nil => simp [leafs]
  | cons k ks ih =>
    cases ks with
    | nil => intro l hl; simp only [leafs, List.mem_singleton] at hl; subst hl; exact h1 k
    | cons k' ks =>
      intro l hl
      rcases List.mem_cons.1 hl with rfl | hl
      · exact h1 k
      · exact ih l hl
theorem castRow_some {ks ks' : List Kd} {xs : List (Tup ks')} {ys : List (Tup ks)} (h : castRow ks ks' xs = some ys) : ∃ e : ks' = ks, e ▸ xs = ys := by
  unfold castRow at h
  split at h
  · rename_i e
    exact ⟨e, Option.some.inj h⟩
  · cases h
/-- What is appended or copied lies there. -/
theorem source_sound (hH : hpH ν N w H) {ks : List Kd} {x : R} {u : Value} {ys : List (Tup ks)} (hx : relR ν N x u) (h : source ks H x = some ys) :
    (u = .slice none 0 0 ∧ ys = []) ∨ (wfT ks ys ∧ ∃ base cap, u = .slice base ys.length cap ∧ okSl base ys.length cap ∧ ∀ j v, (flat ks ys)[j]? = some v → ∃ a, base = some a ∧ w.cell? (a.add j) = some v) := by
  unfold source at h
  split at h
  · cases h; cases hx; exact .inl ⟨rfl, rfl⟩
  · cases h
    obtain ⟨base, rfl, hsp⟩ := hx
    exact .inr ⟨by simp [wfT], base, 0, rfl, ⟨⟨Nat.le_refl _, Nat.zero_le _⟩, hsp, fun _ => rfl⟩, fun j v hv => by simp [flat] at hv⟩
  · split at h
    · rename_i own ks' xs hc
      obtain ⟨e, h2⟩ := castRow_some h
      subst e
      subst h2
      obtain ⟨_, h3, h4⟩ := content_sound hH hx hc
      exact .inr ⟨h3, h4⟩
    · cases h
  · cases h
theorem vals_one {ks : List Kd} (ys : List (Tup ks)) : ∀ v ∈ flat ks ys, v.oneCell' = true := by
  intro v hv
  simp only [flat, List.mem_flatMap, List.mem_map] at hv
  obtain ⟨x, _, l, _, rfl⟩ := hv
  cases l <;> rfl
end
end Sx
