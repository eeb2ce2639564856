/- A symbolic walk: make, literals of slices, bytes of a string. -/
import Derived.Test.YtcilcmbailoeaaaSxM
set_option linter.all false
namespace Sx
open Go
section
variable {P : Program} {ν : Nu} {N : Nat} {w : World} {H : Hp} {K : R → Hp → Nat → Prop}
/-- A new block that is a row. -/
theorem madeRow (hH : hpH ν N w H) {ks : List Kd} {xs : List (Tup ks)} {e : TypeId} {cap : Nat} {cs : List Value} (hk : 0 < ks.length) (hw : wfT ks xs) (hcs : cs.take (xs.length * ks.length) = flat ks xs) (hl : cs.length = cap * ks.length) (hn : xs.length ≤ cap) (hc : cap ≤ maxLen) {n : Nat} (hnx : n = xs.length)
    (h : K (.a (.f N n)) ((N, N, .row true ks xs) :: H) (N + 1)) : Goes ν N H w K (.slice (some ⟨w.heap.size, 0, none⟩) xs.length cap) (w.alloc (.cells cs.toArray e)) :=
  newRow hH none nofun (fun _ b hb => by cases hb; exact Nat.le_refl _) (go_alloc _ _ _) (fun l o _ hg b hb => heap_alloc_old w _ (fp_lt (hH.ob l o hg).2 hb)) hk hw
    (fresh_row (w := w) (flat_length ks xs) hcs hl hn hc w rfl) ⟨some ⟨w.heap.size, 0, none⟩, cap, rfl, ⟨hn, hc⟩, fun x hx => by cases hx; rfl, nofun⟩ hnx h
theorem makeSlice_sound (hH : hpH ν N w H) {t : TypeId} {l c : R} {u v : Value} (hl : relR ν N l u) (hc : relR ν N c v) (h : makeSlice P H N t l c fun r H => K r H (N + 1)) :
    ∃ z w', (Instr.makeSlice t u v).run P w = .ok z w' ∧ Goes ν N H w K z w' := by
  unfold makeSlice at h
  split at h
  · rename_i e k l k' c he
    have hu := elemT_some he
    split at h
    · rename_i ks hks
      obtain ⟨⟨h1, h2, h3, h4⟩, h⟩ := h
      obtain ⟨i, z, hi, hz, hsz, hk, hzc, hzs, hco⟩ := rowT_some hks
      obtain ⟨_, rfl⟩ := relI hl
      obtain ⟨_, rfl⟩ := relI hc
      rw [bytes_info hi, Int.mul_comm] at h4
      have hmx : (140737488355328 : Nat) ≤ maxLen := by decide
      have hr := run_make (P := P) w t e i z hu hi hz k k' l c h1 h2 (by omega) (by omega)
      refine ⟨_, _, hr, ?_⟩
      have hml : (madeCells z.cells (c.toNat * i.size)).toList = (List.replicate c.toNat z.cells.toList).flatten := by
        rw [← zeros_list]; unfold madeCells; rw [hsz, hzs]
      have := madeRow (K := K) (e := e) (cap := c.toNat) (cs := (madeCells z.cells (c.toNat * i.size)).toList) (xs := List.replicate l.toNat (zT ks)) hH hk (fun x hx => by rw [List.eq_of_mem_replicate hx]; exact wf_zero ks) (by
        rw [List.length_replicate, hml, flat_replicate, hzc]
        have e1 : c.toNat = l.toNat + (c.toNat - l.toNat) := by omega
        rw [e1, ← List.replicate_append_replicate, List.flatten_append]
        apply List.take_left'
        simp [leafs_length]) (by simp [madeCells, hsz]) (by simp; omega) (by omega) (n := l.toNat) (by simp) h
      simpa using this
    · exact h.elim
  · exact h.elim
/-- So many zeros behind nothing. -/
theorem appendZ_sound (hH : hpH ν N w H) {t t' ty : TypeId} {s x : R} {u v : Value} (hs : relR ν N s u) (hx : relR ν N x v) (h : appendZ P H N t t' s x fun r H => K r H (N + 1)) :
    ∃ z w', (Builtin.append_ #[t, t'] ty #[u, v]).run P w = .ok z w' ∧ Goes ν N H w K z w' := by
  unfold appendZ at h
  split at h
  · rename_i e n he ht'
    have hu := elemT_some he
    have htn : P.underlying t' = some (.int .i64) := by
      unfold intT at ht'
      split at ht'
      · rename_i k hk
        cases ht'
        exact hk
      · cases ht'
    split at h
    · exact h.elim
    rename_i ks hks
    obtain ⟨i, z, hi, hz, hsz, hk, hzc, hzs, hco⟩ := rowT_some hks
    obtain ⟨⟨h0, h1, h2⟩, h⟩ := h
    cases hs
    obtain ⟨_, rfl⟩ := relI hx
    obtain ⟨m, rfl⟩ : ∃ m : Nat, n = m := ⟨n.toNat, by omega⟩
    rw [bytes_info hi] at h1
    have hmx : (140737488355328 : Nat) ≤ maxLen := by decide
    have h1' : m * i.bytes ≤ 140737488355328 := by
      rw [← Int.natCast_mul] at h1
      omega
    have hge := grownCap_ge w m 0 e
    have hcm := grownCap_le_maxLen w m 0 e (by omega)
    have hrun := Lib.run_append_nil_zeros (P := P) w t t' ty e i z .i64 .i64 hu htn hi hz m (by omega) (by omega) (by omega) (by omega)
    have hml : ∀ q, (Builtin.zeroCells z.cells q).toList = (List.replicate q z.cells.toList).flatten := fun q => by
      rw [← zeros_list]
      simp [Builtin.zeroCells]
    have hrow := fresh_row (w := w) (e := e) (size := ks.length) (n := m) (cap := grownCap w m 0 e) (cs := (Builtin.zeroCells z.cells m).toList ++ (Builtin.zeroCells z.cells (grownCap w m 0 e - m)).toList) (xs := flat ks (List.replicate m (zT ks))) (by rw [flat_length, List.length_replicate]) (by
        rw [flat_replicate, hml m, hzc]
        apply List.take_left'
        simp [leafs_length]) (by
        simp only [List.length_append, Array.length_toList, size_zeroCells, hzs]
        rw [← Nat.add_mul]
        congr 1
        omega) hge hcm w.drew rfl
    rw [show ((Builtin.zeroCells z.cells m).toList ++ (Builtin.zeroCells z.cells (grownCap w m 0 e - m)).toList).toArray = Builtin.zeroCells z.cells m ++ Builtin.zeroCells z.cells (grownCap w m 0 e - m) by rw [← Array.toList_inj]; simp] at hrow
    have hgr := grown_drew_alloc (w := w) (.cells (Builtin.zeroCells z.cells m ++ Builtin.zeroCells z.cells (grownCap w m 0 e - m)) e) none
    refine ⟨_, _, hrun, newRow (xs := List.replicate m (zT ks)) (n := (m : Int).toNat) hH none nofun (fun _ b hb => by cases hb; exact Nat.le_refl _) (Go1.grown hgr nofun) (fun l o _ hg b hb => hgr.block b (fp_lt (hH.ob l o hg).2 hb) nofun) hk (fun q hq => by rw [List.eq_of_mem_replicate hq]; exact wf_zero ks) (by rw [List.length_replicate]; exact hrow) ⟨some ⟨w.heap.size, 0, none⟩, grownCap w m 0 e, by rw [List.length_replicate], ⟨by rw [List.length_replicate]; exact hge, hcm⟩, fun x hx => by cases hx; rfl, nofun⟩ (by simp) (by simpa [goneH] using h)⟩
  · exact h.elim
theorem zlist_rel {as : List A} {vs : List Value} (h : relAs ν N as vs) : ∀ n, relAs ν N (List.replicate n as).flatten (List.replicate n vs).flatten
  | 0 => trivial
  | n + 1 => by
    rw [List.replicate_succ, List.replicate_succ, List.flatten_cons, List.flatten_cons]
    exact relAs_append h (zlist_rel h n)
theorem fill_size {place : Nat → Option (Nat × Nat)} : ∀ {us : List (Nat × Value)} {vs vs' : Array Value}, Instr.fill place vs us = some vs' → vs'.size = vs.size
  | [], vs, vs', h => by cases h; rfl
  | (i, u) :: us, vs, vs', h => by
    rw [Instr.fill] at h
    split at h
    · cases h
    · split at h
      · cases h
      · rename_i off size heq hno
        rw [fill_size h, ← Array.foldl_toList, Array.toList_zipIdx]
        have := fold_setAt off u.cells.toList 0 vs
        have hl := congrArg List.length this
        rw [setAtV_length] at hl
        simpa using hl
theorem buildSlice_sound (hH : hpH ν N w H) {t : TypeId} {n : Nat} {ps : List (Nat × R)} {us : List (Nat × Value)} (hp : relParts ν N ps us) (h : buildSlice P H N t n ps fun r H => K r H (N + 1)) :
    ∃ z w', (Instr.buildSlice t n us.toArray).run P w = .ok z w' ∧ Goes ν N H w K z w' := by
  unfold buildSlice at h
  split at h
  · exact h.elim
  rename_i e he
  have hu := elemT_some he
  split at h
  · rename_i za _ hza hsm
    have hsm := Nat.le_of_ble_eq_true hsm
    obtain ⟨i, z, hi, hz, hzr⟩ := zatoms_some (ν := ν) (N := N) hza
    split at h
    · rename_i cs hf hck
      simp only [Bool.and_eq_true] at hck
      have hl1 := Nat.eq_of_beq_eq_true hck.1
      have hl2 : 1 ≤ za.length := Nat.le_of_ble_eq_true hck.2
      have hco : P.cellsOf e = i.size := by simp [Program.cellsOf, hi]
      have hzs : z.cells.size = i.size := by have := relAs_length hzr; rw [← hco, ← hl1, this]; simp
      have hsz2 : n * i.size = n * z.cells.size := by rw [hzs]
      have hrel0 : relAs ν N (List.replicate n za).flatten ((Array.range (n * i.size)).map fun j => z.cells[j % z.cells.size]!).toList := by
        rw [hsz2, zeros_list]; exact zlist_rel hzr n
      obtain ⟨vs', h1, h2⟩ := fill_sound hf hrel0 hp
      have hmx : (65536 : Nat) ≤ maxLen := by decide
      have hn : n ≤ 65536 := Nat.le_trans (Nat.le_mul_of_pos_right n (by omega)) hsm
      have hg := newCellsR (K := K) (r := .a (.c N n)) (v := .slice (some ⟨w.heap.size, 0, none⟩) n n) hH e h2 (show relA (ν.setB N w.heap.size) (N + 1) (.c N n) (.slice (some ⟨w.heap.size, 0, none⟩) n n) from ⟨Nat.lt_succ_self N, by omega, by simp [Nu.setB]⟩) h
      refine ⟨_, _, ?_, hg⟩
      have hs : (Go.sizeOf e).run P w = .ok i.size w := by simp [Go.sizeOf, typeInfo, hi]
      have hsm' : ¬ (16777216 < n * i.size) := by rw [← hco]; omega
      have hfn : (fun j => some (j * P.cellsOf e, P.cellsOf e) : Nat → Option (Nat × Nat)) = fun j => some (j * i.size, i.size) := by rw [hco]
      rw [hfn] at h1
      by_cases hz0 : n * i.size = 0
      · rw [hz0] at h1
        simp only [Array.range_zero', Array.map_empty] at h1
        simp [Instr.buildSlice, run_underlying hu, hs, hz0, Array.range_zero', h1, Go.newRow, newObj]
        rfl
      · simp [Instr.buildSlice, run_underlying hu, hs, hsm', hz0, zeroValue, typeInfo, hi, hz, h1, Go.newRow, newObj]
        rfl
    · exact h.elim
  · rename_i ks za hks hza hsm
    have hsm := Nat.le_of_ble_eq_true hsm
    obtain ⟨i, z, hi, hz, hsz, hk, hzc, hzs, hco⟩ := rowT_some hks
    obtain ⟨i', z', hi', hz', hzr⟩ := zatoms_some (ν := ν) (N := N) hza
    rw [hi] at hi'
    cases hi'
    rw [hz] at hz'
    cases hz'
    split at h
    · rename_i cs hf
      split at h
      · rename_i xs hgr
        have hsz2 : n * i.size = n * z.cells.size := by rw [hsz, hzs]
        have hrel0 : relAs ν N (List.replicate n za).flatten ((Array.range (n * i.size)).map fun j => z.cells[j % z.cells.size]!).toList := by
          rw [hsz2, zeros_list]; exact zlist_rel hzr n
        obtain ⟨vs', h1, h2⟩ := fill_sound hf hrel0 hp
        obtain ⟨h3, h4, h5⟩ := group_rel hgr h2
        have hsize : vs'.size = n * ks.length := by rw [fill_size h1]; simp [hsz]
        have hmx : (65536 : Nat) ≤ maxLen := by decide
        have hn : n ≤ 65536 := Nat.le_trans (Nat.le_mul_of_pos_right n (by omega)) hsm
        have hg := madeRow (K := K) (e := e) (cap := n) (cs := vs'.toList) (xs := xs) hH hk h4 (by rw [h5, h3, List.take_of_length_le]; rw [← h3]; simp [hsize]) (by simp [hsize]) (by omega) (by omega) (n := n) h5.symm h
        refine ⟨_, _, ?_, hg⟩
        have hs : (Go.sizeOf e).run P w = .ok i.size w := by simp [Go.sizeOf, typeInfo, hi]
        have hsm' : ¬ (16777216 < n * i.size) := by rw [hsz, ← hco]; omega
        have hfn : (fun j => some (j * P.cellsOf e, P.cellsOf e) : Nat → Option (Nat × Nat)) = fun j => some (j * i.size, i.size) := by rw [hco, hsz]
        rw [hfn] at h1
        by_cases hz0 : n * i.size = 0
        · rw [hz0] at h1
          simp only [Array.range_zero', Array.map_empty] at h1
          simp [Instr.buildSlice, run_underlying hu, hs, hz0, Array.range_zero', h1, Go.newRow, newObj, h5]
          rfl
        · simp [Instr.buildSlice, run_underlying hu, hs, hsm', hz0, zeroValue, typeInfo, hi, hz, h1, Go.newRow, newObj, h5]
          rfl
      · exact h.elim
    · exact h.elim
  · exact h.elim
theorem freeze_other {a : Addr} {n k : Nat} (h : k ≠ a.block) : (w.freeze a n).heap[k]? = w.heap[k]? := by
  unfold World.freeze
  split
  · rfl
  · simp [Array.getElem?_modify, Ne.symm h]
theorem freeze_cell {a b : Addr} {n : Nat} : (w.freeze a n).cell? b = w.cell? b := by
  unfold World.freeze
  split
  · rfl
  · simp only [World.cell?, Array.getElem?_modify]
    by_cases h : a.block = b.block
    · rw [if_pos h]
      cases w.heap[b.block]? with
      | none => rfl
      | some o => cases o <;> rfl
    · rw [if_neg h]
theorem freeze_size {a : Addr} {n : Nat} : (w.freeze a n).heap.size = w.heap.size := by unfold World.freeze; split <;> simp
theorem freeze_same {a : Addr} {n : Nat} : (w.freeze a n).os = w.os ∧ (w.freeze a n).tape = w.tape ∧ (w.freeze a n).output = w.output := by unfold World.freeze; split <;> exact ⟨rfl, rfl, rfl⟩
theorem u8_back {xs : List Int} (h : okS xs) : ((toBA xs).data.map fun b => Value.int .u8 b.toNat) = (xs.map (Value.int .u8)).toArray := by
  rw [← Array.toList_inj]
  simp only [toBA, Array.toList_map, List.toList_toArray, List.map_map]
  refine List.map_congr_left fun x hx => ?_
  have := h x hx
  simp only [Function.comp]
  congr 1
  simp only [UInt8.toNat_ofNat']
  omega
theorem toBytes_run {xs : List Int} (hx : okS xs) (hl : xs.length ≤ 140737488355328) {e : TypeId} : ∃ w' cap, (Conv.stringToBytes e (toBA xs)).run P w = .ok (.slice (some ⟨w.heap.size, 0, none⟩) xs.length cap) w' ∧ xs.length ≤ cap ∧ cap ≤ maxLen ∧
    Go1 (fun _ => False) w w' ∧ ∀ j v, (flat [.i .u8] xs)[j]? = some v → w'.cell? ⟨w.heap.size, j, none⟩ = some v := by
  have hmx : (140737488355328 : Nat) ≤ maxLen := by decide
  have hge := grownCap_ge w xs.length 0 e
  have hle := grownCap_le_maxLen w xs.length 0 e (by omega)
  let cs : Array Value := (xs.map (Value.int .u8)).toArray ++ Array.replicate (grownCap w xs.length 0 e - xs.length) (.int .u8 0)
  refine ⟨(w.drew.alloc (.cells cs e)).freeze ⟨w.heap.size, cs.size, none⟩ 1, grownCap w xs.length 0 e, ?_, hge, hle, ?_, fun j v hv => ?_⟩
  · have hsh : (w.drew.alloc (.cells cs e)).shape? w.heap.size = some (e, cs.size) := by
      have := heap_alloc_new w.drew (.cells cs e)
      simp only [World.shape?]
      rw [show w.heap.size = w.drew.heap.size from rfl, this]
    simp only [Conv.stringToBytes, choose, Sem.run_bind, Go.newRow, newObj, markStringish, shape, Go.freeze, toBA_size, u8_back hx]
    simp [Sem.run, Question.forced]
    simp only [cs, grownCap] at hsh
    rw [hsh]
    rfl
  · obtain ⟨f1, f2, f3⟩ := freeze_same (w := w.drew.alloc (.cells cs e)) (a := ⟨w.heap.size, cs.size, none⟩) (n := 1)
    refine ⟨f1, f2, f3, by rw [freeze_size]; simp, fun k hk _ => ?_⟩
    rw [freeze_other (by show k ≠ w.heap.size; omega)]
    exact heap_alloc_old w.drew _ hk
  · rw [freeze_cell]
    have := heap_alloc_new w.drew (.cells cs e)
    rw [nums_of] at hv
    simp only [World.cell?]
    rw [show w.heap.size = w.drew.heap.size from rfl, this]
    have hj : j < (xs.map (Value.int .u8)).length := by
      rcases Nat.lt_or_ge j (xs.map (Value.int .u8)).length with h | h
      · exact h
      · rw [List.getElem?_eq_none h] at hv; cases hv
    simp only [cs, Option.isSome_none, Bool.false_eq_true, if_false]
    rw [Array.getElem?_append_left (by simpa using hj)]
    simpa using hv
theorem newRo (hH : hpH ν N w H) {ks : List Kd} {xs : List (Tup ks)} {v : Value} {w' : World} (hgo : Go1 (fun _ => False) w w') (hk : 0 < ks.length) (hw : wfT ks xs) {base : Option Addr} {cap : Nat} (hv : v = .slice base xs.length cap) (hok : okSl base xs.length cap)
    (hb : ∀ b, v.ownBlock = some b → w.heap.size ≤ b) (hcell : ∀ j u, (flat ks xs)[j]? = some u → ∃ a, base = some a ∧ w'.cell? (a.add j) = some u) {n : Nat} (hn : n = xs.length)
    (h : K (.a (.f N n)) ((N, N, .row false ks xs) :: H) (N + 1)) : Goes ν N H w K v w' := by
  subst hn
  have hge : ∀ l o, l ≠ N → hget ((N, N, Ob.row false ks xs) :: H) l = some o → hget H l = some o := fun l o hl hg => by rwa [hget_cons, if_neg (Ne.symm hl)] at hg
  refine ⟨ν.setS N v (fun b => v.ownBlock = some b ∧ xs ≠ []), N + 1, _, .a (.f N xs.length), (show relA _ _ (.f N xs.length) _ from ⟨Nat.lt_succ_self N, by simp [Nu.setS], base, cap, by simp [Nu.setS, hv], hok⟩), ?_, ⟨hgo.mono nofun, ?_, agree_setS _ _ _ _, Nat.le_succ N, ?_, mono_cons⟩, h⟩
  · refine hpH_upd hH (fun l => l ≠ N) (st_cons hH) (Nat.le_succ N) (agree_setS _ _ _ _) hgo.size ?_ ?_ ?_ ?_ ?_
    · exact fun l o hl hg => ⟨hge l o hl hg, by simp [Nu.setS, hl]⟩
    · exact fun l o hl hg b hb => hgo.block b (fp_lt (hH.ob l o hg).2 hb) nofun
    · intro l o hl hg
      have hl : l = N := Classical.not_not.1 hl
      subst hl
      rw [hget_cons, if_pos rfl] at hg
      cases hg
      exact ⟨Nat.lt_succ_self _, hk, hw, fun b => by simp [Nu.setS], base, cap, by simp [Nu.setS, hv], hok, hcell⟩
    · intro l o hl hg b hbb
      have hl : l = N := Classical.not_not.1 hl
      subst hl
      rw [hget_cons, if_pos rfl] at hg
      cases hg
      simp only [fpO, Nu.setS, if_pos] at hbb
      exact .inl (hb b hbb.1)
    · intro l l' o o' hne hl hl'
      exact absurd ((Classical.not_not.1 hl).trans (Classical.not_not.1 hl').symm) hne
  · rintro b ⟨l, o, hg, ho, hbb⟩
    by_cases hl : l = N
    · subst hl
      rw [hget_cons, if_pos rfl] at hg
      cases hg
      cases ho
    · simp only [Nu.setS, if_neg hl] at hbb
      exact .inl ⟨l, o, hge l o hl hg, ho, hbb⟩
  · intro l o hg _
    have hl : l ≠ N := Nat.ne_of_lt (hH.ob l o hg).1
    exact ⟨by rw [hget_cons, if_neg (Ne.symm hl)]; exact hg, by simp [Nu.setS, hl], fun b hb => hgo.block b (fp_lt (hH.ob l o hg).2 hb) nofun⟩
theorem toBytes_sound (hH : hpH ν N w H) {e : TypeId} {x : R} {u : Value} (hx : relR ν N x u) (h : toBytes H N x fun r H => K r H (N + 1)) :
    ∃ s, u = .string s ∧ ∃ z w', (Conv.stringToBytes e s).run P w = .ok z w' ∧ Goes ν N H w K z w' := by
  unfold toBytes at h
  split at h
  · rename_i xs
    obtain ⟨hl, h⟩ := h
    obtain ⟨hs, rfl⟩ := hx
    obtain ⟨w', cap, h1, h2, h3, h4, h5⟩ := toBytes_run (P := P) (w := w) hs hl (e := e)
    refine ⟨toBA xs, rfl, _, w', h1, newRo (ks := [.i .u8]) (xs := xs) hH h4 (by simp) (fun x hx l hl => ?_) rfl ⟨⟨h2, h3⟩, fun x hx => by cases hx; rfl, nofun⟩ (fun b hb => by cases hb; exact Nat.le_refl _) (fun j v hv => ⟨_, rfl, by rw [Addr.add_mid]; simpa using h5 j v hv⟩) rfl h⟩
    simp only [leafs, Kd.leaf, List.mem_singleton] at hl
    subst hl
    have := hs x hx
    show lo .u8 ≤ x ∧ x ≤ hi .u8
    simpa [lo, hi] using this
  · exact h.elim
theorem asText_sound (hH : hpH ν N w H) {t : TypeId} {x : R} {u : Value} (hx : relR ν N x u) (h : asText P H N t x fun r H => K r H (N + 1)) :
    ∃ z w', (Go.convert t t u).run P w = .ok z w' ∧ Goes ν N H w K z w' := by
  unfold asText at h
  split at h
  · exact h.elim
  rename_i e he
  have hu := elemT_some he
  split at h
  · rename_i l n hue
    obtain ⟨hl, rfl, base, cap, hsv, hok⟩ := hx
    split at h
    · rename_i ks xs hg
      obtain ⟨hn, h⟩ := h
      obtain ⟨hlt, hk, hw, hfp, e0, hown⟩ := hH.ob _ _ hg
      have hcells := (row_cells (hH.ob _ _ hg).2).2.2
      rcases hown.2 with ⟨q1, q2⟩ | ⟨g, cap2, cur, q1, q2, q3, q4, q5, q6, q7⟩
      · rw [hsv] at q1
        obtain ⟨_, q3, _⟩ := slice_inj q1
        omega
      rw [hsv] at q1
      obtain ⟨rfl, hxn, rfl⟩ := slice_inj q1
      subst hxn
      have hbk : (ν.sv l).ownBlock = some g := by rw [hsv]; rfl
      have hgl : g < w.heap.size := by
        rcases Nat.lt_or_ge g w.heap.size with h' | h'
        · exact h'
        · rw [Array.getElem?_eq_none h'] at q3; cases q3
      have hsh : w.shape? g = some (e0, cur.size) := by unfold World.shape?; rw [q3]
      have hrun : (Go.convert t t (ν.sv l)).run P w = .ok (ν.sv l) (w.freeze ⟨g, cur.size, none⟩ 1) := by
        rw [hsv]
        simp [Go.convert, run_underlying hu, run_underlying hue, markStringish, hsh]
      have hfz : ∀ k, (w.freeze ⟨g, cur.size, none⟩ 1).heap[k]? = if k = g then some (.cells cur e0 (cur.size, cur.size + 1)) else w.heap[k]? := by
        intro k
        unfold World.freeze
        rw [if_neg (by decide)]
        simp only [Array.getElem?_modify]
        by_cases hk2 : k = g
        · subst hk2
          rw [if_pos rfl, if_pos rfl, q3]
          rfl
        · rw [if_neg (Ne.symm hk2), if_neg hk2]
      have hsz : (w.freeze ⟨g, cur.size, none⟩ 1).heap.size = w.heap.size := by
        unfold World.freeze
        rw [if_neg (by decide)]
        simp
      have hother : ∀ k, k ≠ g → (w.freeze ⟨g, cur.size, none⟩ 1).heap[k]? = w.heap[k]? := fun k hk2 => by rw [hfz, if_neg hk2]
      have hcell : ∀ a v, w.cell? a = some v → (w.freeze ⟨g, cur.size, none⟩ 1).cell? a = some v := by
        intro a v ha
        by_cases hk2 : a.block = g
        · unfold World.cell? at ha ⊢
          rw [hfz, if_pos hk2]
          rw [hk2, q3] at ha
          exact ha
        · unfold World.cell? at ha ⊢
          rw [hother _ hk2]
          exact ha
      have hgo : Go1 (own ν H) w (w.freeze ⟨g, cur.size, none⟩ 1) := by
        refine ⟨by unfold World.freeze; rw [if_neg (by decide)], by unfold World.freeze; rw [if_neg (by decide)], by unfold World.freeze; rw [if_neg (by decide)], by rw [hsz]; exact Nat.le_refl _, fun k _ hno => hother k fun e => hno ?_⟩
        subst e
        exact ⟨l, _, hg, rfl, (hfp _).2 hbk⟩
      refine ⟨_, _, hrun, ?_⟩
      have hge : ∀ m o, hget ((N, N, Ob.row false ks xs) :: hset H l N .gone) m = some o → (m = N ∧ o = .row false ks xs) ∨ (m ≠ N ∧ m = l ∧ o = .gone) ∨ (m ≠ N ∧ m ≠ l ∧ hget H m = some o) := by
        intro m o hm
        rw [hget_cons] at hm
        split at hm
        · rename_i e
          cases hm
          exact .inl ⟨e.symm, rfl⟩
        · rename_i e
          rw [hget_hset] at hm
          split at hm
          · rename_i e2
            cases hm
            exact .inr (.inl ⟨Ne.symm e, e2.symm, rfl⟩)
          · rename_i e2
            exact .inr (.inr ⟨Ne.symm e, Ne.symm e2, hm⟩)
      have hstE : ∀ m, hst ((N, N, Ob.row false ks xs) :: hset H l N .gone) m = if N = m then N else if l = m then N else hst H m := by
        intro m
        rw [hst_cons, hst_hset]
      have hgb : ∀ m o, m ≠ l → hget H m = some o → ∀ b, fpO ν m o b → b ≠ g := fun m o hm hgm b hb e => by
        subst e
        exact hH.ap m l o _ hm hgm hg (.inr rfl) b hb ((hfp _).2 hbk)
      refine ⟨ν.setS N (ν.sv l) (fun b => (ν.sv l).ownBlock = some b ∧ xs ≠ []), N + 1, _, .a (.f N xs.length), (show relA _ _ (.f N xs.length) _ from ⟨Nat.lt_succ_self N, by simp [Nu.setS], some ⟨g, 0, none⟩, cap, by simp [Nu.setS, hsv], hok⟩), ?_, ⟨hgo, ?_, agree_setS _ _ _ _, Nat.le_succ N, ?_, ?_⟩, h⟩
      · refine hpH_upd hH (fun m => m ≠ N ∧ m ≠ l) ?_ (Nat.le_succ N) (agree_setS _ _ _ _) (by rw [hsz]; exact Nat.le_refl _) ?_ ?_ ?_ ?_ ?_
        · intro m o hm
          rw [hstE]
          rcases hge m o hm with ⟨rfl, _⟩ | ⟨h1, rfl, _⟩ | ⟨h1, h2, h3⟩
          · rw [if_pos rfl]; omega
          · rw [if_neg (Ne.symm h1), if_pos rfl]; omega
          · rw [if_neg (Ne.symm h1), if_neg (Ne.symm h2)]
            have := hH.st m o h3
            omega
        · intro m o hm hgm
          rcases hge m o hgm with ⟨rfl, _⟩ | ⟨h1, rfl, _⟩ | ⟨h1, h2, h3⟩
          · exact absurd rfl hm.1
          · exact absurd rfl hm.2
          · exact ⟨h3, by simp [Nu.setS, h1]⟩
        · intro m o hm hgm b hb
          exact hother b (hgb m o hm.2 hgm b hb)
        · intro m o hm hgm
          rcases hge m o hgm with ⟨rfl, rfl⟩ | ⟨h1, rfl, rfl⟩ | ⟨h1, h2, h3⟩
          · refine ⟨Nat.lt_succ_self _, hk, hw, fun b => by simp [Nu.setS], some ⟨g, 0, none⟩, cap, by simp [Nu.setS, hsv], hok, fun j v hv => ?_⟩
            obtain ⟨base3, cap3, p1, _, p2⟩ := hcells
            rw [hsv] at p1
            obtain ⟨rfl, _, _⟩ := slice_inj p1
            obtain ⟨a, pa, pc⟩ := p2 j v hv
            exact ⟨a, pa, hcell _ _ pc⟩
          · exact ⟨by omega, trivial⟩
          · exact absurd ⟨h1, h2⟩ hm
        · intro m o hm hgm b hb
          rcases hge m o hgm with ⟨rfl, rfl⟩ | ⟨h1, rfl, rfl⟩ | ⟨h1, h2, h3⟩
          · simp only [fpO, Nu.setS, if_pos] at hb
            exact .inr ⟨l, _, fun h => h.2 rfl, hg, rfl, (hfp _).2 hb.1⟩
          · exact hb.elim
          · exact absurd ⟨h1, h2⟩ hm
        · intro m m' o o' hne hm hm' hgm hgm' _ b hb hb'
          rcases hge m o hgm with ⟨rfl, rfl⟩ | ⟨h1, rfl, rfl⟩ | ⟨h1, h2, h3⟩
          · rcases hge m' o' hgm' with ⟨rfl, rfl⟩ | ⟨k1, rfl, rfl⟩ | ⟨k1, k2, k3⟩
            · exact hne rfl
            · exact hb'.elim
            · exact hm' ⟨k1, k2⟩
          · exact hb.elim
          · exact hm ⟨h1, h2⟩
      · rintro b ⟨m, o, hgm, ho, hb⟩
        rcases hge m o hgm with ⟨rfl, rfl⟩ | ⟨h1, rfl, rfl⟩ | ⟨h1, h2, h3⟩
        · cases ho
        · cases ho
        · simp only [Nu.setS, if_neg h1] at hb
          exact .inl ⟨m, o, h3, ho, hb⟩
      · intro m o hgm he2
        have hmN : m ≠ N := Nat.ne_of_lt (hH.ob m o hgm).1
        rw [hstE, if_neg (Ne.symm hmN)] at he2
        have hstm := hH.st m o hgm
        by_cases hml : m = l
        · subst hml
          rw [if_pos rfl] at he2
          omega
        · refine ⟨by rw [hget_cons, if_neg (Ne.symm hmN), hget_hset, if_neg (Ne.symm hml)]; exact hgm, by simp [Nu.setS, hmN], fun b hb => hother b (hgb m o hml hgm b hb)⟩
      · intro m
        rw [hstE]
        split
        · exact .inr (Nat.le_refl _)
        · split
          · exact .inr (Nat.le_refl _)
          · exact .inl rfl
    · exact h.elim
  · exact h.elim
/-- An operation that is no call of a function. -/
theorem wp_of_run {o : Oper} {a : Act} {z : Value} {w' : World} {next : Act → World → Prop} {Q : Exit → Act → World → Prop} (h : (execOp a.eval o).run P w = .ok (.value z) w') (hn : next (a.put o.dst z) w') : o.wp P a w next Q := by
  unfold Oper.wp; rw [h]; exact hn
theorem wp_of_skip {o : Oper} {a : Act} {w' : World} {next : Act → World → Prop} {Q : Exit → Act → World → Prop} (h : (execOp a.eval o).run P w = .ok .skip w') (hn : next (a.put o.dst undef) w') : o.wp P a w next Q := by
  unfold Oper.wp; rw [h]; exact hn
end
end Sx
