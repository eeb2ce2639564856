/- A symbolic walk: loads, parts, literals, and all quiet operations together. -/
import Derived.Test.YtcilcmbailoeaaaSxF
set_option linter.all false
namespace Sx
open Go
section
variable {P : Program} {ν : Nu} {N : Nat} {w : World}
theorem leafs_length : ∀ (ks : List Kd) (x : Tup ks), (leafs ks x).length = ks.length
  | [], _ => rfl
  | [_], _ => rfl
  | _ :: k' :: ks, x => by simp [leafs, leafs_length (k' :: ks) x.2]
theorem flat_length (ks : List Kd) (xs : List (Tup ks)) : (flat ks xs).length = xs.length * ks.length := by
  induction xs with
  | nil => simp [flat]
  | cons x xs ih =>
    have e : flat ks (x :: xs) = (leafs ks x).map L.val ++ flat ks xs := rfl
    rw [e, List.length_append, ih, List.length_map, leafs_length, List.length_cons, Nat.succ_mul, Nat.add_comm]
theorem flat_get (ks : List Kd) : ∀ (xs : List (Tup ks)) (i j : Nat), i < xs.length → j < ks.length → (flat ks xs)[i * ks.length + j]? = ((leafs ks (xs.getD i (zT ks))).map L.val)[j]?
  | x :: xs, 0, j, _, hj => by
    have e : flat ks (x :: xs) = (leafs ks x).map L.val ++ flat ks xs := rfl
    rw [e, Nat.zero_mul, Nat.zero_add, List.getElem?_append_left (by simpa [leafs_length] using hj)]
    rfl
  | x :: xs, i + 1, j, hi, hj => by
    have e : flat ks (x :: xs) = (leafs ks x).map L.val ++ flat ks xs := rfl
    rw [e, List.getElem?_append_right (by simp only [List.length_map, leafs_length]; rw [Nat.succ_mul]; omega)]
    have e2 : (i + 1) * ks.length + j - ((leafs ks x).map L.val).length = i * ks.length + j := by
      simp only [List.length_map, leafs_length]; rw [Nat.succ_mul]; omega
    rw [e2, flat_get ks xs i j (by simpa using hi) hj]
    rfl
theorem slice_inj {a a' : Option Addr} {n n' c c' : Nat} (h : Value.slice a n c = .slice a' n' c') : a = a' ∧ n = n' ∧ c = c' := by cases h; exact ⟨rfl, rfl, rfl⟩
/-- A row's cells, whoever's it is. -/
theorem row_cells {l : Nat} {own : Bool} {ks : List Kd} {xs : List (Tup ks)} (h : obH ν N w l (.row own ks xs)) : 0 < ks.length ∧ wfT ks xs ∧ ∃ base cap, ν.sv l = .slice base xs.length cap ∧ okSl base xs.length cap ∧
    ∀ j v, (flat ks xs)[j]? = some v → ∃ a, base = some a ∧ w.cell? (a.add j) = some v := by
  cases own with
  | false => exact ⟨h.1, h.2.1, h.2.2.2⟩
  | true =>
    obtain ⟨h1, h2, _, e, h3⟩ := h
    refine ⟨h1, h2, ?_⟩
    have hc := h3.cells (g := (ν.sv l).ownBlock.getD 0)
    rcases h3.2 with ⟨h4, h5⟩ | ⟨g, cap, cur, h4, h5, h6, h7, h8, _⟩
    · refine ⟨none, 0, by rw [h4, h5], ⟨by omega, (fun _ h => nomatch h), fun _ => rfl⟩, fun j v hv => ?_⟩
      have : xs = [] := List.eq_nil_of_length_eq_zero h5
      subst this
      simp [flat] at hv
    · refine ⟨some ⟨g, 0, none⟩, cap, h4, ⟨⟨h7, h8⟩, fun x hx => by cases hx; rfl, nofun⟩, fun j v hv => ⟨_, rfl, ?_⟩⟩
      have hb : (ν.sv l).ownBlock = some g := by rw [h4]; rfl
      rw [hb] at hc
      exact hc rfl j v hv
theorem okT_parts {t : TypeId} (h : okT P t = true) : 1 ≤ P.cellsOf t ∧ ∃ d, P.underlying t = some d := by
  unfold okT at h
  simp only [Bool.and_eq_true] at h
  exact ⟨Nat.le_of_ble_eq_true h.1, Option.isSome_iff_exists.1 h.2⟩
theorem isAggT_row {t : TypeId} {d : TypeDesc} (hu : P.underlying t = some d) : isAggT P t = d.isRow := by
  unfold isAggT
  rw [hu]
  cases d <;> rfl
/-- A variable is read whole out of cells that are known. -/
theorem load_run {t : TypeId} {b o : Nat} {cs : List A} {vs : List Value} {k : Nat} (hs : relAs ν N cs vs) (ht : okT P t = true) (hk : k + P.cellsOf t ≤ cs.length)
    (hc : ∀ j v, j < P.cellsOf t → vs[k + j]? = some v → w.cell? ⟨b, o + j, none⟩ = some v) :
    ∃ z, relV ν N (partV P t cs k) z ∧ (Instr.loadAt t (.pointer (some ⟨b, o, none⟩))).run P w = .ok z w := by
  obtain ⟨h1, d, hu⟩ := okT_parts ht
  have hl := relAs_length hs
  unfold partV
  rw [isAggT_row hu]
  cases hd : d.isRow with
  | true =>
    refine ⟨.agg ((vs.drop k).take (P.cellsOf t)).toArray, ⟨_, rfl, by simpa using relAs_take (relAs_drop hs k) _⟩, ?_⟩
    refine run_loadAt_mid w b o t _ d (fun j v hv => ?_) hu hd ?_
    · rw [List.getElem?_take] at hv
      split at hv
      · rename_i hj
        rw [List.getElem?_drop] at hv
        exact hc j v hj hv
      · cases hv
    · rw [info_size h1]; simp; omega
  | false =>
    have hlt : k < vs.length := by omega
    refine ⟨vs[k], (relAs_get hs k hlt).1, ?_⟩
    have := hc 0 vs[k] (by omega) (by rw [Nat.add_zero, List.getElem?_eq_getElem hlt])
    rw [Nat.add_zero] at this
    simp [Instr.loadAt, Instr.sureAddr, loadVar, run_isAgg_scalar hu hd, Go.load, Sem.run, this]
theorem relAs_lit (ls : List L) (h : ∀ l ∈ ls, l.wf) : relAs ν N (ls.map A.l) (ls.map L.val) := by
  induction ls with
  | nil => trivial
  | cons l ls ih => exact ⟨⟨⟨h l (by simp), rfl⟩, by cases l <;> rfl⟩, ih fun x hx => h x (by simp [hx])⟩
theorem getD_mem {α : Type} {xs : List α} {i : Nat} {d : α} (h : i < xs.length) : xs.getD i d ∈ xs := by
  rw [List.getD_eq_getElem?_getD, List.getElem?_eq_getElem h]; exact List.getElem_mem h
theorem relAs_cellsAt {ks : List Kd} {xs : List (Tup ks)} {i : Nat} (hw : wfT ks xs) (h : i < xs.length) : relAs ν N (cellsAt ks xs i) ((leafs ks (xs.getD i (zT ks))).map L.val) :=
  relAs_lit _ (hw _ (getD_mem h))
theorem load_sound {H : Hp} (hH : hpH ν N w H) {t : TypeId} {x r : R} {u : Value} (hx : relR ν N x u) (h : (load P H t x).Out r) :
    ∃ z, relR ν N r z ∧ (Instr.loadAt t u).run P w = .ok z w := by
  unfold load at h
  split at h
  · rename_i l o
    obtain ⟨hl, rfl⟩ := hx
    split at h
    · rename_i cs hg
      obtain ⟨hc, h⟩ := onlyIf_out h
      cases h
      simp only [Bool.and_eq_true] at hc
      obtain ⟨_, vs, T, hb, hr⟩ := (hH.ob _ _ hg).2
      refine load_run hr hc.1 (Nat.le_of_ble_eq_true hc.2) fun j v hj hv => ?_
      rw [cell_of_row w _ _ vs T (0, 0) hb]
      simpa using hv
    · exact h.elim
  · rename_i l z i o
    obtain ⟨hl, b, off, n, cap, hsv, hi, rfl⟩ := hx
    split at h
    · rename_i own ks xs hg
      obtain ⟨hc, h⟩ := onlyIf_out h
      cases h
      simp only [Bool.and_eq_true] at hc
      obtain ⟨h1, h2, base, cap', h3, h4, h5⟩ := row_cells (hH.ob _ _ hg).2
      rw [hsv] at h3
      obtain ⟨rfl, rfl, rfl⟩ := slice_inj h3
      have hz := Nat.eq_of_beq_eq_true hc.2.1
      have hk := Nat.le_of_ble_eq_true hc.2.2
      subst hz
      have hcl : (cellsAt ks xs i).length = ks.length := by simp [cellsAt, leafs_length]
      refine load_run (relAs_cellsAt h2 hi) hc.1 (by omega) fun j v hj hv => ?_
      have := flat_get ks xs i (o + j) hi (by omega)
      obtain ⟨a, ha, hcell⟩ := h5 (i * ks.length + (o + j)) v (by rw [this]; exact hv)
      cases ha
      rw [Addr.add_mid] at hcell
      rw [show off + i * ks.length + o + j = off + (i * ks.length + (o + j)) by omega]
      exact hcell
    · exact h.elim
  · exact h.elim
theorem flat_append (ks : List Kd) (xs ys : List (Tup ks)) : flat ks (xs ++ ys) = flat ks xs ++ flat ks ys := by simp [flat, List.flatMap_append]
theorem flat_mid {ks : List Kd} {xs : List (Tup ks)} {a b j : Nat} {v : Value} (hab : a ≤ b) (hb : b ≤ xs.length) (h : (flat ks ((xs.take b).drop a))[j]? = some v) : (flat ks xs)[a * ks.length + j]? = some v := by
  have e : xs = xs.take a ++ ((xs.take b).drop a ++ xs.drop b) := by
    rw [← List.append_assoc]
    have : xs.take a ++ (xs.take b).drop a = xs.take b := by
      have := List.take_append_drop a (xs.take b)
      rwa [List.take_take, Nat.min_eq_left hab] at this
    rw [this, List.take_append_drop]
  have hl : (flat ks (xs.take a)).length = a * ks.length := by rw [flat_length, List.length_take, Nat.min_eq_left (by omega)]
  rw [e, flat_append, flat_append, List.getElem?_append_right (by omega), hl, Nat.add_sub_cancel_left]
  have hj : j < (flat ks ((xs.take b).drop a)).length := by
    rcases Nat.lt_or_ge j (flat ks ((xs.take b).drop a)).length with h' | h'
    · exact h'
    · rw [List.getElem?_eq_none h'] at h; cases h
  rw [List.getElem?_append_left hj]
  exact h
theorem wfT_sub {ks : List Kd} {xs ys : List (Tup ks)} (h : wfT ks xs) (hs : ∀ x ∈ ys, x ∈ xs) : wfT ks ys := fun x hx => h x (hs x hx)
/-- What a slice holds lies there. -/
theorem content_sound {H : Hp} (hH : hpH ν N w H) {a : A} {v : Value} {own : Bool} {ks : List Kd} {xs : List (Tup ks)} (ha : relA ν N a v) (h : content H a = some (own, ⟨ks, xs⟩)) :
    0 < ks.length ∧ wfT ks xs ∧ ∃ base cap, v = .slice base xs.length cap ∧ okSl base xs.length cap ∧ ∀ j u, (flat ks xs)[j]? = some u → ∃ x, base = some x ∧ w.cell? (x.add j) = some u := by
  unfold content at h
  split at h
  · rename_i l n
    split at h
    · rename_i own' ks' xs' hg
      cases h
      obtain ⟨h1, h2, base, cap, h3, h4, h5⟩ := row_cells (hH.ob _ _ hg).2
      obtain ⟨_, rfl, _⟩ := ha
      exact ⟨h1, h2, base, cap, h3, h4, h5⟩
    · cases h
  · rename_i l z a b
    split at h
    · rename_i own' ks' xs' hg
      split at h
      · rename_i hz
        cases h
        have hz := Nat.eq_of_beq_eq_true hz
        subst hz
        obtain ⟨h1, h2, base, cap, h3, h4, h5⟩ := row_cells (hH.ob _ _ hg).2
        obtain ⟨hl, base', n, cap', base2, hsv, hab, hbn, hok, rfl, hba, hok'⟩ := ha
        rw [h3] at hsv
        obtain ⟨rfl, hn, rfl⟩ := slice_inj hsv
        subst hn
        have hlen : ((xs'.take b).drop a).length = b - a := by rw [List.length_drop, List.length_take, Nat.min_eq_left hbn]
        refine ⟨h1, wfT_sub h2 fun x hx => List.mem_of_mem_take (List.mem_of_mem_drop hx), base2, cap - a, by rw [hlen], by rw [hlen]; exact hok', fun j u hu => ?_⟩
        have hne : a < b := by
          rcases Nat.lt_or_ge a b with h | h
          · exact h
          · have : (xs'.take b).drop a = [] := List.eq_nil_of_length_eq_zero (by omega)
            rw [this] at hu
            simp [flat] at hu
        obtain ⟨x, rfl, hc⟩ := h5 _ u (flat_mid hab hbn hu)
        have := hok.1
        rw [hba (by omega)]
        refine ⟨_, rfl, ?_⟩
        rw [Addr.add_mid]
        rw [toAddr x (hok.2.1 x rfl)] at hc
        rw [Nat.add_assoc]
        exact hc
      · cases h
    · cases h
  · cases h
theorem nums_of {xs : List Int} : flat [.i .u8] xs = xs.map (Value.int .u8) := by
  induction xs with
  | nil => rfl
  | cons x xs ih =>
    show Value.int .u8 x :: flat [.i .u8] xs = _
    rw [ih]
    rfl
theorem okS_of {xs : List Int} (h : wfT [.i .u8] xs) : okS xs := fun x hx => by
  have := h x hx (.i .u8 x) (by simp [leafs, Kd.leaf])
  simpa [L.wf, lo, hi] using this
theorem bytesOf_sound {H : Hp} (hH : hpH ν N w H) {a : A} {v : Value} {xs : List Int} {src dst e : TypeId} (ha : relA ν N a v) (h : bytesOf H a = some xs)
    (hs : P.underlying src = some (.slice e)) (he : P.underlying e = some (.int .u8)) (hd : P.underlying dst = some .string) :
    okS xs ∧ (Go.convert src dst v).run P w = .ok (.string (toBA xs)) w := by
  unfold bytesOf at h
  split at h
  · cases h
    cases ha
    exact ⟨by simp [okS], by rw [run_convert_bytes_nil (P := P) w src e hs he 0 0 dst hd]; rfl⟩
  · cases h
    obtain ⟨base, rfl, hsp⟩ := ha
    refine ⟨by simp [okS], ?_⟩
    cases base with
    | none => rw [run_convert_bytes_nil (P := P) w src e hs he 0 0 dst hd]; rfl
    | some x =>
      rw [spotless (hsp x rfl)]
      exact (run_convert_bytes_arg (P := P) w src e hs he x.block x.off _ 0 [] rfl (fun i hi => by simp at hi) dst hd).trans rfl
  · split at h
    · rename_i own xs' hc
      cases h
      obtain ⟨_, h2, base, cap, rfl, hok, hcell⟩ := content_sound hH ha hc
      refine ⟨okS_of h2, ?_⟩
      cases base with
      | none =>
        have := hok.2.2 rfl
        have h1 := hok.1
        have : xs = [] := List.eq_nil_of_length_eq_zero (by omega)
        subst this
        rw [run_convert_bytes_nil (P := P) w src e hs he _ _ dst hd]; rfl
      | some x =>
        have hx := hok.2.1 x rfl
        rw [spotless hx, run_convert_bytes_arg (P := P) w src e hs he x.block x.off _ cap xs rfl (fun i hi => ?_) dst hd]
        · rfl
        · obtain ⟨y, hy, hc⟩ := hcell i (.int .u8 (xs.getD i 0)) (by
            rw [nums_of, List.getElem?_map, List.getD_eq_getElem?_getD, List.getElem?_eq_getElem hi]; rfl)
          cases hy
          rw [toAddr x hx] at hc
          exact hc
    · cases h
theorem convert_sound {H : Hp} (hH : hpH ν N w H) {s d : TypeId} {x r : R} {u : Value} (hx : relR ν N x u) (h : (convert P H s d x).Out r) :
    ∃ z, relR ν N r z ∧ (Go.convert s d u).run P w = .ok z w := by
  unfold convert at h
  split at h
  · rename_i k0 k' k n hs hd
    obtain ⟨hr, rfl⟩ := relI hx
    exact ⟨_, conv_sound hr h, by simp [Go.convert, run_underlying hs, run_underlying hd, Conv.intToInt]⟩
  · rename_i xs hs hd
    cases h
    obtain ⟨hr, rfl⟩ := hx
    exact ⟨_, ⟨hr, rfl⟩, by simp [Go.convert, run_underlying hs, run_underlying hd, L.val]⟩
  · rename_i e a hs hd
    split at h
    · rename_i xs he hb
      cases h
      obtain ⟨h1, h2⟩ := bytesOf_sound (P := P) hH hx hb hs he hd
      exact ⟨_, ⟨h1, rfl⟩, h2⟩
    · exact h.elim
  · exact h.elim
theorem part_run {t : TypeId} {cs : List A} {vs : Array Value} {k : Nat} (hs : relAs ν N cs vs.toList) (ht : okT P t = true) (hk : k + P.cellsOf t ≤ cs.length) :
    ∃ z, relV ν N (partV P t cs k) z ∧ (part t vs k).run P w = .ok z w := by
  obtain ⟨h1, d, hu⟩ := okT_parts ht
  have hl := relAs_length hs
  unfold partV
  rw [isAggT_row hu]
  cases hd : d.isRow with
  | true =>
    refine ⟨.agg (vs.extract k (k + P.cellsOf t)), ⟨_, rfl, by simpa using relAs_take (relAs_drop hs k) (P.cellsOf t)⟩, ?_⟩
    simp [part, run_isAgg_row hu hd, run_size (P := P) (w := w) (t := t) (by simp [hu])]
  | false =>
    have hlt : k < vs.toList.length := by omega
    refine ⟨vs.toList[k], (relAs_get hs k hlt).1, ?_⟩
    simp [part, run_isAgg_scalar hu hd, show vs[k]? = some vs[k] from Array.getElem?_eq_getElem (by simpa using hlt)]
theorem index_sound {t : TypeId} {x i r : R} {u v : Value} (hx : relR ν N x u) (hi : relR ν N i v) (h : (index P t x i).Out r) :
    ∃ z, relR ν N r z ∧ (Instr.index t u v).run P w = .ok z w := by
  unfold index at h
  split at h
  · rename_i n e cs k i hu
    obtain ⟨hc, h⟩ := onlyIf_out h
    simp only [Bool.and_eq_true] at hc
    obtain ⟨j, _, h2, rfl, h4⟩ := among_out h
    cases h4
    obtain ⟨_, rfl⟩ := relI hi
    obtain ⟨vs, rfl, hs⟩ := hx
    have hle := Nat.le_of_ble_eq_true hc.2
    have : j * P.cellsOf e + P.cellsOf e ≤ n * P.cellsOf e := by rw [← Nat.succ_mul]; exact Nat.mul_le_mul_right _ (by omega)
    obtain ⟨z, hz, hr⟩ := part_run (w := w) hs hc.1 (k := j * P.cellsOf e) (by omega)
    refine ⟨z, hz, ?_⟩
    obtain ⟨h1, d, hd⟩ := okT_parts hc.1
    have hnj : ¬ n ≤ j := by omega
    simp [Instr.index, asIntOf, run_underlying hu, hnj, run_size (P := P) (w := w) (t := e) (by simp [hd]), hr]
  · exact h.elim
theorem fieldT_some {t u : TypeId} {f o : Nat} (h : fieldT P t f = some (o, u)) : ∃ fs fd, P.underlying t = some (.struct fs) ∧ fs[f]? = some fd ∧ fd.offset = o ∧ fd.type = u := by
  unfold fieldT at h
  split at h
  · rename_i fs hu
    split at h
    · rename_i fd hf
      cases h
      exact ⟨fs, fd, hu, hf, rfl, rfl⟩
    · cases h
  · cases h
theorem field_sound {t : TypeId} {f : Nat} {x r : R} {u : Value} (hx : relR ν N x u) (h : (field P t x f).Out r) :
    ∃ z, relR ν N r z ∧ (Instr.field t u f).run P w = .ok z w := by
  unfold field at h
  split at h
  · rename_i o ty cs hf
    obtain ⟨hc, h⟩ := onlyIf_out h
    cases h
    simp only [Bool.and_eq_true] at hc
    obtain ⟨fs, fd, hu, hfd, rfl, rfl⟩ := fieldT_some hf
    obtain ⟨vs, rfl, hs⟩ := hx
    obtain ⟨z, hz, hr⟩ := part_run (w := w) hs hc.1 (Nat.le_of_ble_eq_true hc.2)
    exact ⟨z, hz, by simp [Instr.field, run_underlying hu, hfd, asAgg, hr]⟩
  · exact h.elim
theorem fieldAt_run {t : TypeId} {f : Nat} {fs : Array Field} {fd : Field} {b o : Nat} (hu : P.underlying t = some (.struct fs)) (hf : fs[f]? = some fd) (h1 : 1 ≤ P.cellsOf fd.type) :
    (Instr.fieldAt t (.pointer (some ⟨b, o, none⟩)) f).run P w = .ok (.pointer (some ⟨b, o + fd.offset, none⟩)) w := by
  have hs : (Go.sizeOf fd.type).run P w = .ok (P.cellsOf fd.type) w := run_size1 (Nat.ble_eq_true_of_le h1)
  have h0 : P.cellsOf fd.type ≠ 0 := by omega
  simp [Instr.fieldAt, run_underlying hu, hf, Instr.sureAddr, fieldPlace, hs, h0, Addr.add_mid]
theorem fieldAddr_sound {t : TypeId} {f : Nat} {x r : R} {u : Value} (hx : relR ν N x u) (h : (fieldAddr P t x f).Out r) :
    ∃ z, relR ν N r z ∧ (Instr.fieldAt t u f).run P w = .ok z w := by
  unfold fieldAddr at h
  split at h
  · rename_i o ty l o' hf
    obtain ⟨fs, fd, hu, hfd, rfl, rfl⟩ := fieldT_some hf
    obtain ⟨hl, rfl⟩ := hx
    split at h
    · exact h.elim
    · rename_i n hn
      cases h
      exact ⟨_, ⟨hl, rfl⟩, fieldAt_run hu hfd (by omega)⟩
  · rename_i o ty l z i o' hf
    obtain ⟨fs, fd, hu, hfd, rfl, rfl⟩ := fieldT_some hf
    obtain ⟨hl, b, off, n, cap, hsv, hi, rfl⟩ := hx
    split at h
    · exact h.elim
    · rename_i n hn
      cases h
      exact ⟨_, ⟨hl, b, off, _, cap, hsv, hi, by rw [Nat.add_assoc]⟩, fieldAt_run hu hfd (by omega)⟩
  · exact h.elim
end
end Sx
