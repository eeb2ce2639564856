/- A symbolic walk: literals, and all quiet operations together. -/
import Derived.Test.YtcilcmbailoeaaaSxG
set_option linter.all false
namespace Sx
open Go
section
variable {P : Program} {ν : Nu} {N : Nat} {w : World}
def setAtV : List Value → Nat → List Value → List Value
  | cs, _, [] => cs
  | cs, o, a :: as => setAtV (cs.set o a) (o + 1) as
theorem relAs_set : ∀ {cs : List A} {vs : List Value} (o : Nat) {a : A} {v : Value}, relAs ν N cs vs → relC ν N a v → relAs ν N (cs.set o a) (vs.set o v)
  | [], [], _, _, _, _, _ => trivial
  | _ :: _, _ :: _, 0, _, _, h, ha => ⟨ha, h.2⟩
  | _ :: _, _ :: _, o + 1, _, _, h, ha => ⟨h.1, relAs_set o h.2 ha⟩
  | [], _ :: _, _, _, _, h, _ => h.elim
  | _ :: _, [], _, _, _, h, _ => h.elim
theorem relAs_setAt : ∀ {as : List A} {us : List Value} {cs : List A} {vs : List Value} (o : Nat), relAs ν N cs vs → relAs ν N as us → relAs ν N (setAt cs o as) (setAtV vs o us)
  | [], [], _, _, _, h, _ => h
  | _ :: _, _ :: _, _, _, o, h, ha => relAs_setAt (o + 1) (relAs_set o h ha.1) ha.2
  | [], _ :: _, _, _, _, _, h => h.elim
  | _ :: _, [], _, _, _, _, h => h.elim
theorem setAtV_length : ∀ (us : List Value) (vs : List Value) (o : Nat), (setAtV vs o us).length = vs.length
  | [], _, _ => rfl
  | u :: us, vs, o => by rw [setAtV, setAtV_length us]; simp
theorem fold_setAt (off : Nat) : ∀ (us : List Value) (k : Nat) (cells : Array Value), ((us.zipIdx k).foldl (fun (cs : Array Value) p => cs.setIfInBounds (off + p.2) p.1) cells).toList = setAtV cells.toList (off + k) us
  | [], _, _ => rfl
  | u :: us, k, cells => by
    rw [List.zipIdx_cons, List.foldl_cons, fold_setAt off us (k + 1)]
    simp [setAtV, Nat.add_assoc]
theorem one_cells {v : Value} (h : v.oneCell' = true) : v.cells = #[v] := by cases v <;> first | rfl | cases h
theorem asCells_rel {v : V} {as : List A} {u : Value} (h : relV ν N v u) (ha : asCells v = some as) : relAs ν N as u.cells.toList := by
  cases v with
  | one a =>
    have hj : a ≠ .junk := by rintro rfl; cases ha
    have : asCells (.one a) = some [a] := by cases a <;> first | rfl | exact absurd rfl hj
    rw [this] at ha
    cases ha
    have h1 := relA_one h hj
    rw [one_cells h1]
    exact ⟨⟨h, h1⟩, trivial⟩
  | agg cs =>
    cases ha
    obtain ⟨vs, rfl, h⟩ := h
    exact h
/-- The parts of a literal, and what they stand for. -/
def relParts (ν : Nu) (N : Nat) : List (Nat × R) → List (Nat × Value) → Prop
  | [], [] => True
  | a :: as, v :: vs => a.1 = v.1 ∧ relR ν N a.2 v.2 ∧ relParts ν N as vs
  | _, _ => False
theorem relParts_ev {tm : List R} {a : Act} (hT : relT ν N tm a.tmps) : ∀ (ps : List (Nat × Operand)), relParts ν N (ps.map fun q => (q.1, ev tm q.2)) (ps.map fun q => (q.1, a.eval q.2))
  | [] => trivial
  | p :: ps => ⟨rfl, relR_ev hT p.2, relParts_ev hT ps⟩
theorem fill_sound {place : Nat → Option (Nat × Nat)} : ∀ {ps : List (Nat × R)} {us : List (Nat × Value)} {cs cs' : List A} {vs : Array Value}, fillA place cs ps = some cs' → relAs ν N cs vs.toList → relParts ν N ps us →
    ∃ vs', Instr.fill place vs us = some vs' ∧ relAs ν N cs' vs'.toList
  | [], [], cs, cs', vs, h, hr, _ => by cases h; exact ⟨vs, rfl, hr⟩
  | (i, r) :: ps, (k, u) :: us, cs, cs', vs, h, hr, hp => by
    obtain ⟨hi, hru, hp⟩ := hp
    cases hi
    simp only [fillA] at h
    split at h
    · rename_i o z v hpl
      split at h
      · rename_i as ha
        split at h
        · rename_i hz ho
          have hz := Nat.eq_of_beq_eq_true hz
          have ho := Nat.le_of_ble_eq_true ho
          subst hz
          have hc := asCells_rel hru ha
          have hl := relAs_length hc
          have hl2 := relAs_length hr
          simp only [Array.length_toList] at hl hl2
          obtain ⟨vs', h1, h2⟩ := fill_sound (vs := (u.cells.toList.zipIdx.foldl (fun (cs : Array Value) p => cs.setIfInBounds (o + p.2) p.1) vs)) h (by rw [fold_setAt]; exact relAs_setAt o hr hc) hp
          refine ⟨vs', ?_, h2⟩
          rw [Instr.fill, hpl]
          simp only
          rw [if_neg (by simp; omega), ← Array.foldl_toList, Array.toList_zipIdx]
          exact h1
        · cases h
      · cases h
    · cases h
  | [], _ :: _, _, _, _, _, _, h => h.elim
  | _ :: _, [], _, _, _, _, _, h => h.elim
theorem zcells_some {t : TypeId} {z : List Value} (h : zcells P t = some z) : ∃ i v, P.info? t = some i ∧ i.zero = some v ∧ z = v.cells.toList := by
  unfold zcells at h
  split at h
  · rename_i i hi
    split at h
    · rename_i v hv
      cases h
      exact ⟨i, v, hi, hv, rfl⟩
    · cases h
  · cases h
theorem zatoms_some {t : TypeId} {cs : List A} (h : zatoms P t = some cs) : ∃ i v, P.info? t = some i ∧ i.zero = some v ∧ relAs ν N cs v.cells.toList := by
  unfold zatoms at h
  split at h
  · rename_i z hz
    obtain ⟨i, v, h1, h2, rfl⟩ := zcells_some hz
    split at h
    · rename_i hall
      cases h
      exact ⟨i, v, h1, h2, relAs_cst _ hall⟩
    · cases h
  · cases h
theorem mapM_places : ∀ (fs : List Field), (fs.all fun f => (P.info? f.type).isSome) = true → fs.mapM (fun f => (P.info? f.type).map fun i => (f.offset, i.size)) = some (fs.map fun f => (f.offset, P.cellsOf f.type))
  | [], _ => rfl
  | f :: fs, h => by
    simp only [List.all_cons, Bool.and_eq_true] at h
    obtain ⟨i, hi⟩ := Option.isSome_iff_exists.1 h.1
    have := mapM_places fs h.2
    simp [List.mapM_cons, hi, this, Program.cellsOf]
theorem build_sound {t : TypeId} {ps : List (Nat × R)} {us : List (Nat × Value)} {r : R} (hp : relParts ν N ps us) (h : (build P t ps).Out r) :
    ∃ z, relR ν N r z ∧ (Instr.build t us.toArray).run P w = .ok z w := by
  unfold build at h
  split at h
  · rename_i z fs hz hu
    obtain ⟨hall, h⟩ := onlyIf_out h
    split at h
    · rename_i cs hf
      cases h
      obtain ⟨i, v, h1, h2, h3⟩ := zatoms_some (ν := ν) (N := N) hz
      obtain ⟨vs', h4, h5⟩ := fill_sound (vs := v.cells) hf h3 hp
      refine ⟨.agg vs', ⟨vs', rfl, h5⟩, run_build w t _ _ ?_⟩
      unfold Program.built
      rw [h1, hu]
      simp only [h2, mapM_places fs.toList hall]
      rw [← h4]
      congr 1
      funext j
      simp
      cases fs[j]? <;> rfl
    · exact h.elim
  · rename_i z n e hz hu
    obtain ⟨hall, h⟩ := onlyIf_out h
    obtain ⟨ie, hie⟩ := Option.isSome_iff_exists.1 hall
    split at h
    · rename_i cs hf
      cases h
      obtain ⟨i, v, h1, h2, h3⟩ := zatoms_some (ν := ν) (N := N) hz
      obtain ⟨vs', h4, h5⟩ := fill_sound (vs := v.cells) hf h3 hp
      refine ⟨.agg vs', ⟨vs', rfl, h5⟩, run_build w t _ _ ?_⟩
      unfold Program.built
      rw [h1, hu]
      simp only [h2, hie]
      rw [← h4]
      simp [Program.cellsOf, hie]
    · exact h.elim
  · exact h.elim
theorem unop_sound {op : UnOp} {x r : R} {u : Value} (hx : relR ν N x u) (h : (unop op x).Out r) : ∃ z, relR ν N r z ∧ (Op.unary op u).run P w = .ok z w := by
  unfold unop at h
  split at h
  · obtain ⟨_, rfl⟩ := hx
    cases h
    exact ⟨_, relB_mk _, by simp [Op.unary, L.val]⟩
  · obtain ⟨_, rfl⟩ := relI hx
    exact ⟨_, into_sound h, by simp [Op.unary, Op.intArith]⟩
  · rename_i k a
    obtain ⟨_, rfl⟩ := relI hx
    cases h
    exact ⟨_, relI_mk (bits_range ..), by simp [Op.unary, intBits_xor]⟩
  · exact h.elim
theorem ptrs_sound : ∀ {rs : List R} {vs : List Value} {ps : List (Nat × Nat)}, (∀ i (h : i < vs.length), relR ν N (rs.getD i .junk) vs[i]) → rs.length = vs.length → ptrsOf rs = some ps →
    (∀ q ∈ ps, q.1 < N) ∧ vs = ps.map fun q => Value.pointer (some ⟨ν.blk q.1, q.2, none⟩)
  | [], [], ps, _, _, h => by cases h; simp
  | r :: rs, v :: vs, ps, hr, hl, h => by
    unfold ptrsOf at h
    split at h
    · rename_i heq
      cases heq
    · rename_i l o rs' heq
      cases heq
      split at h
      · rename_i qs hq
        cases h
        have h0 := hr 0 (by simp)
        obtain ⟨hlt, hv⟩ := h0
        obtain ⟨h1, h2⟩ := ptrs_sound (rs := rs) (vs := vs) (fun i hi => by have := hr (i + 1) (by simpa using hi); simpa using this) (by simpa using hl) hq
        refine ⟨fun q hq => ?_, ?_⟩
        · rcases List.mem_cons.1 hq with rfl | hq
          · exact hlt
          · exact h1 q hq
        · rw [List.map_cons, ← h2]
          congr 1
      · cases h
    · cases h
  | [], _ :: _, _, _, h, _ => by simp at h
  | _ :: _, [], _, _, h, _ => by simp at h
theorem toBA_size (xs : List Int) : (toBA xs).size = xs.length := by simp [toBA, ByteArray.size]
theorem relTs {tm : List R} {a : Act} (hT : relT ν N tm a.tmps) : ∀ (xs : List Operand), (xs.map (ev tm)).length = (xs.map a.eval).length ∧ ∀ i (h : i < (xs.map a.eval).length), relR ν N ((xs.map (ev tm)).getD i .junk) (xs.map a.eval)[i] := fun xs =>
  ⟨by simp, fun i h => by
    have hi : i < xs.length := by simpa using h
    simp only [List.getD_eq_getElem?_getD, List.getElem?_map, List.getElem?_eq_getElem hi, Option.map_some, Option.getD_some, List.getElem_map]
    exact relR_ev hT _⟩
theorem max_ints {ts : Array TypeId} {t : TypeId} {k : IntKind} {x y : Int} : (Builtin.max_ ts t #[.int k x, .int k y]).run P w = .ok (.int k (max x y)) w := by
  have : (if y > x then y else x) = max x y := by split <;> omega
  simp [Builtin.max_, Builtin.max2, this]
theorem min_ints {ts : Array TypeId} {t : TypeId} {k : IntKind} {x y : Int} : (Builtin.min_ ts t #[.int k x, .int k y]).run P w = .ok (.int k (min x y)) w := by
  have : (if y < x then y else x) = min x y := by split <;> omega
  simp [Builtin.min_, Builtin.min2, this]
theorem min_ints3 {ts : Array TypeId} {t : TypeId} {k : IntKind} {x y z : Int} : (Builtin.min_ ts t #[.int k x, .int k y, .int k z]).run P w = .ok (.int k (min (min x y) z)) w := by
  have : (if y < x then y else x) = min x y := by split <;> omega
  have h2 : (if z < min x y then z else min x y) = min (min x y) z := by split <;> omega
  simp [Builtin.min_, Builtin.min2, this, h2]
theorem maxLen_hi : (maxLen : Int) = hi .i64 := by decide
theorem len_sound {t : TypeId} {ty : TypeId} {x r : R} {u : Value} {ts : Array TypeId} (hts : ts[0]? = some t) (hx : relR ν N x u) (h : (lenOf P t x).Out r) : ∃ z, relR ν N r z ∧ (Builtin.len_ ts ty #[u]).run P w = .ok z w := by
  have hm := maxLen_hi
  have hlo : lo .i64 ≤ 0 := lo_le _
  unfold lenOf at h
  split at h
  · rename_i e l n hu
    cases h
    obtain ⟨_, rfl, base, cap, hsv, hok⟩ := hx
    have := hok.1
    exact ⟨.int .i64 n, relI_mk ⟨by omega, by omega⟩, by rw [hsv]; simp [Builtin.len_, hts, run_underlying hu, goInt]⟩
  · rename_i e l z a b hu
    cases h
    obtain ⟨_, base, n, cap, base', hsv, hab, hbn, hok, rfl, _, hok'⟩ := hx
    have := hok'.1
    exact ⟨.int .i64 ((b - a : Nat) : Int), relI_mk ⟨by omega, by omega⟩, by simp [Builtin.len_, hts, run_underlying hu, goInt]⟩
  · rename_i e hu
    cases h
    cases hx
    exact ⟨.int .i64 0, relI_mk ⟨by omega, by omega⟩, by simp [Builtin.len_, hts, run_underlying hu, goInt]⟩
  · rename_i e hu
    cases h
    obtain ⟨base, rfl, _⟩ := hx
    exact ⟨.int .i64 0, relI_mk ⟨by omega, by omega⟩, by simp [Builtin.len_, hts, run_underlying hu, goInt]⟩
  · rename_i e l n hu
    cases h
    obtain ⟨_, hn, rfl⟩ := hx
    exact ⟨.int .i64 n, relI_mk ⟨by omega, by omega⟩, by simp [Builtin.len_, hts, run_underlying hu, goInt]⟩
  · rename_i xs hu
    obtain ⟨hb, h⟩ := h
    cases h
    obtain ⟨_, rfl⟩ := hx
    exact ⟨.int .i64 xs.length, relI_mk ⟨by omega, hb⟩, by simp [Builtin.len_, hts, run_underlying hu, goInt, L.val, toBA_size]⟩
  · exact h.elim
theorem cap_sound {t : TypeId} {ty : TypeId} {x r : R} {u : Value} {ts : Array TypeId} (hts : ts[0]? = some t) (hx : relR ν N x u) (h : (capOf P t x).Out r) : ∃ z, relR ν N r z ∧ (Builtin.cap_ ts ty #[u]).run P w = .ok z w := by
  have hm := maxLen_hi
  have hlo : lo .i64 ≤ 0 := lo_le _
  unfold capOf at h
  split at h
  · rename_i e hu
    cases h
    cases hx
    exact ⟨.int .i64 0, relI_mk ⟨by omega, by omega⟩, by simp [Builtin.cap_, hts, run_underlying hu, goInt]⟩
  · exact h.elim
theorem map_two {α β : Type} {f : α → β} {xs : List α} {a b : β} (h : xs.map f = [a, b]) : ∃ p q, xs = [p, q] ∧ f p = a ∧ f q = b := by
  match xs, h with
  | [p, q], h => simp at h; exact ⟨p, q, rfl, h.1, h.2⟩
theorem map_three {α β : Type} {f : α → β} {xs : List α} {a b c : β} (h : xs.map f = [a, b, c]) : ∃ p q r, xs = [p, q, r] ∧ f p = a ∧ f q = b ∧ f r = c := by
  match xs, h with
  | [p, q, r], h => simp at h; exact ⟨p, q, r, rfl, h.1, h.2.1, h.2.2⟩
theorem slice3_run {t e : TypeId} {base : Option Addr} {n cap : Nat} {k k' : IntKind} (hu : P.underlying t = some (.slice e)) (hs : inB 1 (P.cellsOf e) = true) :
    (Instr.sliceAt t (.slice base n cap) none (some (.int k 0)) (some (.int k' 0))).run P w = .ok (.slice base 0 0) w := by
  have he := elem_slice hu
  have hu' : P.underlying t = some (.slice (P.elem t)) := by rw [he]; exact hu
  have hsz := run_size1 (P := P) (w := w) hs
  simp [Instr.sliceAt, run_underlying hu, Instr.slice, Instr.sliceBounds, Instr.sliceBound, asInt, asIntOf, hsz]
theorem slice3_sound {t : TypeId} {x h m r : R} {u hv mv : Value} (hx : relR ν N x u) (hh : relR ν N h hv) (hm : relR ν N m mv) (ho : (slice3 P t x h m).Out r) :
    ∃ z, relR ν N r z ∧ (Instr.sliceAt t u none (some hv) (some mv)).run P w = .ok z w := by
  unfold slice3 at ho
  split at ho
  · exact ho.elim
  rename_i e he
  have hu := elemT_some he
  have hs := (onlyIf_out ho).1
  replace ho := (onlyIf_out ho).2
  split at ho
  · obtain ⟨⟨rfl, rfl⟩, h2⟩ := ho
    cases h2
    obtain ⟨_, rfl⟩ := relI hh
    obtain ⟨_, rfl⟩ := relI hm
    obtain ⟨hl, rfl, base, cap, hsv, hok⟩ := hx
    rw [hsv]
    exact ⟨_, ⟨base, rfl, hok.2.1⟩, slice3_run hu hs⟩
  · obtain ⟨⟨rfl, rfl⟩, h2⟩ := ho
    cases h2
    obtain ⟨_, rfl⟩ := relI hh
    obtain ⟨_, rfl⟩ := relI hm
    obtain ⟨hl, base, n, cap, base', hsv, hab, hbn, hok, rfl, hba, hok'⟩ := hx
    exact ⟨_, ⟨base', rfl, hok'.2.1⟩, slice3_run hu hs⟩
  · obtain ⟨⟨rfl, rfl⟩, h2⟩ := ho
    cases h2
    obtain ⟨_, rfl⟩ := relI hh
    obtain ⟨_, rfl⟩ := relI hm
    cases hx
    exact ⟨_, rfl, slice3_run hu hs⟩
  · obtain ⟨⟨rfl, rfl⟩, h2⟩ := ho
    cases h2
    obtain ⟨_, rfl⟩ := relI hh
    obtain ⟨_, rfl⟩ := relI hm
    obtain ⟨base, rfl, hsp⟩ := hx
    exact ⟨_, ⟨base, rfl, hsp⟩, slice3_run hu hs⟩
  · exact ho.elim
theorem fl_sound {H : Hp} {tm : List R} {a : Act} (hT : relT ν N tm a.tmps) (hH : hpH ν N w H) {o : Oper} {r : R} (h : (fl P tm H o.op).Out r) :
    ∃ v, relR ν N r v ∧ (execOp a.eval o).run P w = .ok (.value v) w := by
  have E := relR_ev (ν := ν) (N := N) hT
  obtain ⟨dst, op, type, pos, after, guard⟩ := o
  unfold fl at h
  simp only at h
  split at h
  · rename_i x; cases h; exact ⟨_, E x, by simp [execOp]⟩
  · rename_i x; cases h; exact ⟨_, E x, by simp [execOp]⟩
  · rename_i c x y
    unfold pick at h
    split at h
    · rename_i b hb
      have hc := E c
      rw [hb] at hc
      obtain ⟨_, hv⟩ := hc
      simp only [Fl.Out] at h
      cases b
      · cases h
        exact ⟨_, E y, by simp [execOp, hv, asBool, L.val]⟩
      · cases h
        exact ⟨_, E x, by simp [execOp, hv, asBool, L.val]⟩
    · exact h.elim
  · rename_i t parts
    obtain ⟨z, h1, h2⟩ := build_sound (w := w) (relParts_ev (ν := ν) (N := N) hT parts.toList) h
    refine ⟨z, h1, ?_⟩
    have e : (parts.map fun (x : Nat × Operand) => (x.1, a.eval x.2)) = (parts.toList.map fun q => (q.1, a.eval q.2)).toArray := by
      rw [← Array.toList_inj]; simp
    rw [← e] at h2
    simp [execOp, h2]
  · rename_i t x
    obtain ⟨z, h1, h2⟩ := load_sound hH (E x) h
    exact ⟨z, h1, by simp [execOp, h2]⟩
  · rename_i x
    have hx := E x
    unfold nilCheck at h
    split at h
    · rename_i l o hq
      cases h
      rw [hq] at hx
      obtain ⟨h1, hv⟩ := hx
      exact ⟨_, ⟨h1, rfl⟩, by simp [execOp, hv]⟩
    · rename_i l z i o hq
      cases h
      rw [hq] at hx
      obtain ⟨h1, b, off, n, cap, h2, h3, hv⟩ := hx
      exact ⟨_, ⟨h1, b, off, n, cap, h2, h3, rfl⟩, by simp [execOp, hv]⟩
    · rename_i f cs hq
      cases h
      rw [hq] at hx
      obtain ⟨h1, hv⟩ := hx
      exact ⟨_, ⟨h1, rfl⟩, by simp [execOp, hv]⟩
    · exact h.elim
  · rename_i op t x y ty
    obtain ⟨z, h1, h2⟩ := binop_sound (w := w) (xo := x) (yo := y) (E x) (E y) h
    refine ⟨z, h1, ?_⟩
    simp only [execOp, Sem.run_bind] at h2 ⊢
    simp [h2]
  · rename_i op t x
    obtain ⟨z, h1, h2⟩ := unop_sound (w := w) (P := P) (E x) h
    exact ⟨z, h1, by simp [execOp, h2]⟩
  · rename_i s d x
    obtain ⟨z, h1, h2⟩ := convert_sound hH (E x) h
    exact ⟨z, h1, by simp [execOp, h2]⟩
  · rename_i f first captured
    split at h
    · rename_i ps hs hp
      cases h
      obtain ⟨h1, h2⟩ := ptrs_sound (relTs (ν := ν) (N := N) hT captured.toList).2 (by simp) hp
      have hf : first = #[] := by simpa using hs
      refine ⟨_, ⟨h1, rfl⟩, ?_⟩
      subst hf
      have : captured.map a.eval = (ps.map fun q => Value.pointer (some ⟨ν.blk q.1, q.2, none⟩)).toArray := by
        rw [← Array.toList_inj]; simpa using h2
      simp [execOp, Instr.makeFunc, this]
    · exact h.elim
  · rename_i t x lw hg
    obtain ⟨z, h1, h2⟩ := slice_sound (w := w) (lv := lw.map a.eval) (hv := hg.map a.eval) (E x) (by cases lw <;> simp [E]) (by cases hg <;> simp [E]) h
    exact ⟨z, h1, by simp [execOp, h2]⟩
  · rename_i t x hg m
    obtain ⟨z, h1, h2⟩ := slice3_sound (w := w) (E x) (E hg) (E m) h
    exact ⟨z, h1, by simp [execOp, h2]⟩
  · rename_i t x f
    obtain ⟨z, h1, h2⟩ := fieldAddr_sound (w := w) (E x) h
    exact ⟨z, h1, by simp [execOp, h2]⟩
  · rename_i t x f
    obtain ⟨z, h1, h2⟩ := field_sound (w := w) (E x) h
    exact ⟨z, h1, by simp [execOp, h2]⟩
  · rename_i t x i
    obtain ⟨z, h1, h2⟩ := indexAddr_sound (w := w) (E x) (E i) h
    exact ⟨z, h1, by simp [execOp, h2]⟩
  · rename_i t x i
    obtain ⟨z, h1, h2⟩ := index_sound (w := w) (E x) (E i) h
    exact ⟨z, h1, by simp [execOp, h2]⟩
  · rename_i t k
    have hx := E t
    unfold extract at h
    split at h
    · rename_i vs hq
      rw [hq] at hx
      obtain ⟨us, hv, hr⟩ := hx
      split at h
      · rename_i v hk
        cases h
        have : ∀ {xs : List V} {us : List Value} {k : Nat}, relVs ν N xs us → xs[k]? = some v → ∃ u, us[k]? = some u ∧ relV ν N v u := by
          intro xs
          induction xs with
          | nil => intro us k _ h; simp at h
          | cons x xs ih =>
            intro us k hr h
            cases us with
            | nil => exact hr.elim
            | cons u us => cases k with
              | zero => cases h; exact ⟨u, rfl, hr.1⟩
              | succ k => simpa using ih hr.2 (by simpa using h)
        obtain ⟨u, h1, h2⟩ := this hr hk
        refine ⟨u, h2, ?_⟩
        have : us[k]? = some u := by simpa using h1
        simp [execOp, hv, Instr.extract, this]
      · exact h.elim
    · exact h.elim
  · rename_i c
    obtain ⟨callee, args, argTypes⟩ := c
    simp only at h
    split at h
    · split at h
      · rename_i x t ts hx ht
        have e1 : args = #[x] := by rw [← Array.toList_inj]; simpa using hx
        have e2 : argTypes[0]? = some t := by
          have := congrArg (fun l => l[0]?) ht
          simpa using this
        subst e1
        obtain ⟨z, h1, h2⟩ := len_sound (w := w) (ty := type) e2 (E x) h
        refine ⟨z, h1, ?_⟩
        simp [execOp, resolve, invoke, Go.builtin, h2]
      · exact h.elim
    · split at h
      · rename_i x t ts hx ht
        have e1 : args = #[x] := by rw [← Array.toList_inj]; simpa using hx
        have e2 : argTypes[0]? = some t := by
          have := congrArg (fun l => l[0]?) ht
          simpa using this
        subst e1
        obtain ⟨z, h1, h2⟩ := cap_sound (w := w) (ty := type) e2 (E x) h
        refine ⟨z, h1, ?_⟩
        simp [execOp, resolve, invoke, Go.builtin, h2]
      · exact h.elim
    · unfold minR at h
      split at h
      · rename_i k x k' y hq
        split at h
        · rename_i hk
          cases h
          have := of_decide_eq_true hk
          subst this
          obtain ⟨p, q, e1, e2, e3⟩ := map_two hq
          have e1 : args = #[p, q] := by rw [← Array.toList_inj]; simpa using e1
          subst e1
          have hp := E p
          have hq := E q
          rw [e2] at hp
          rw [e3] at hq
          obtain ⟨r1, hp⟩ := relI hp
          obtain ⟨r2, hq⟩ := relI hq
          exact ⟨.int k (min x y), relI_mk ⟨by omega, by omega⟩, by simp [execOp, resolve, invoke, Go.builtin, hp, hq, min_ints]⟩
        · exact h.elim
      · rename_i k x k' y k'' z hq
        split at h
        · rename_i hk hk'
          cases h
          have := of_decide_eq_true hk
          subst this
          have := of_decide_eq_true hk'
          subst this
          obtain ⟨p, q, s, e1, e2, e3, e4⟩ := map_three hq
          have e1 : args = #[p, q, s] := by rw [← Array.toList_inj]; simpa using e1
          subst e1
          have hp := E p
          have hq := E q
          have hs := E s
          rw [e2] at hp
          rw [e3] at hq
          rw [e4] at hs
          obtain ⟨r1, hp⟩ := relI hp
          obtain ⟨r2, hq⟩ := relI hq
          obtain ⟨r3, hs⟩ := relI hs
          exact ⟨.int k (min (min x y) z), relI_mk ⟨by omega, by omega⟩, by simp [execOp, resolve, invoke, Go.builtin, hp, hq, hs, min_ints3]⟩
        · exact h.elim
      · exact h.elim
    · unfold maxR at h
      split at h
      · rename_i k x k' y hq
        split at h
        · rename_i hk
          cases h
          have := of_decide_eq_true hk
          subst this
          obtain ⟨p, q, e1, e2, e3⟩ := map_two hq
          have e1 : args = #[p, q] := by rw [← Array.toList_inj]; simpa using e1
          subst e1
          have hp := E p
          have hq := E q
          rw [e2] at hp
          rw [e3] at hq
          obtain ⟨r1, hp⟩ := relI hp
          obtain ⟨r2, hq⟩ := relI hq
          exact ⟨.int k (max x y), relI_mk ⟨by omega, by omega⟩, by simp [execOp, resolve, invoke, Go.builtin, hp, hq, max_ints]⟩
        · exact h.elim
      · exact h.elim
    · exact h.elim
  · exact h.elim
end
end Sx
