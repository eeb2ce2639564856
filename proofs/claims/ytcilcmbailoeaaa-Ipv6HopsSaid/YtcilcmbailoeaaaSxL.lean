/- A symbolic walk: append, copy, clear, make, literals of slices. -/
import Derived.Test.YtcilcmbailoeaaaSxK
import Derived.Lib.AppendZeros
set_option linter.all false
namespace Sx
open Go
section
variable {P : Program} {ν : Nu} {N : Nat} {w : World} {H : Hp} {K : R → Hp → Nat → Prop}
theorem fresh_row {e : TypeId} {size n cap : Nat} {cs : List Value} {xs : List Value} (hx : xs.length = n * size) (hcs : cs.take (n * size) = xs) (hl : cs.length = cap * size) (hn : n ≤ cap) (hc : cap ≤ maxLen) (w0 : World) (h0 : w0.heap.size = w.heap.size) :
    (w0.alloc (.cells cs.toArray e)).ownsRow 0 e size (.slice (some ⟨w.heap.size, 0, none⟩) n cap) n xs :=
  ⟨hx, .inr ⟨w.heap.size, cap, _, rfl, Nat.zero_le _, by rw [← h0]; exact heap_alloc_new w0 _, hn, hc, by simpa using hl, by simpa using hcs⟩⟩
theorem grown_drew_alloc (o : Obj) (r : Option Nat) : w.grownBy (w.drew.alloc o) r := ⟨rfl, rfl, rfl, by simp, fun k hk _ => heap_alloc_old w.drew o hk⟩
/-- Append to a row of the walk's own, in room or in a new block. -/
theorem run_append_any {t ty e e0 : TypeId} {i : TypeInfo} {z : Value} (ht : P.underlying t = some (.slice e)) (hi : P.info? e = some i) (hz : i.zero = some z) (hzs : z.cells.size = i.size) {v : Value} {n : Nat} {xs : List Value} (hown : w.ownsRow 0 e0 i.size v n xs)
    {a : Addr} {m c : Nat} {news : List Value} (hl : news.length = m * i.size) (hnews : ∀ j u, news[j]? = some u → w.cell? (a.add j) = some u) (h1 : ∀ u ∈ news, u.oneCell' = true) (h63 : n + m ≤ 140737488355328) (hbytes : (n + m) * i.bytes ≤ 140737488355328) (hm : 0 < m) :
    ∃ v' w' e', (Builtin.append_ #[t, t] ty #[v, .slice (some a) m c]).run P w = .ok v' w' ∧ w'.ownsRow 0 e' i.size v' (n + m) (xs ++ news) ∧ w.grownBy w' v.ownBlock ∧ (∃ g cap, v' = .slice (some ⟨g, 0, none⟩) (n + m) cap ∧ n + m ≤ cap ∧ cap ≤ maxLen ∧ (v.ownBlock = some g ∨ w.heap.size ≤ g)) := by
  have hmx : (140737488355328 : Nat) ≤ maxLen := by decide
  have hlen : (xs ++ news).length = (n + m) * i.size := by rw [List.length_append, hown.1, hl, Nat.add_mul]
  rcases hown.2 with ⟨rfl, rfl⟩ | ⟨g, cap, cur, rfl, hbg, hg, hnc, hcm, hcs, htake⟩
  · have hx : xs = [] := List.eq_nil_of_length_eq_zero (by simpa using hown.1)
    subst hx
    have hge := grownCap_ge w m 0 e
    have hcm := grownCap_le_maxLen w m 0 e (by omega)
    refine ⟨_, _, e, run_append_nil (P := P) w t ty e i z ht hi hz a m c news hl hnews hm (by omega) (by simp at hbytes; omega), ?_, grown_drew_alloc _ _, w.heap.size, _, by rw [Nat.zero_add], by omega, hcm, .inr (Nat.le_refl _)⟩
    simp only [Nat.zero_add, List.nil_append]
    have := fresh_row (w := w) (e := e) (size := i.size) (n := m) (cap := grownCap w m 0 e) (cs := news ++ (Builtin.zeroCells z.cells (grownCap w m 0 e - m)).toList) (xs := news) hl (by rw [← hl, List.take_left]) (by
      have e9 : (Builtin.zeroCells z.cells (grownCap w m 0 e - m)).toList.length = (grownCap w m 0 e - m) * z.cells.size := by rw [Array.length_toList, size_zeroCells]
      rw [List.length_append, e9, hzs, hl, ← Nat.add_mul]; congr 1; omega) hge hcm w.drew rfl
    rw [show (news ++ (Builtin.zeroCells z.cells (grownCap w m 0 e - m)).toList).toArray = news.toArray ++ Builtin.zeroCells z.cells (grownCap w m 0 e - m) by rw [← Array.toList_inj]; simp] at this
    exact this
  · by_cases hroom : n + m ≤ cap
    · have hfit : n * i.size + news.length ≤ cur.size := by rw [hl, hcs, ← Nat.add_mul]; exact Nat.mul_le_mul_right _ hroom
      have hf := run_firstCells_some (P := P) w i.size m a m c news hl hnews
      have hst := run_storeCells_at P g (n * i.size) e0 news 0 cur w hg (by simpa using hfit) h1
      simp only [Nat.add_zero] at hst
      refine ⟨.slice (some ⟨g, 0, none⟩) (n + m) cap, _, e0, ?_, ⟨hlen, .inr ⟨g, cap, _, rfl, hbg, setRow_heap w g cur (cur.toList.take (n * i.size) ++ news ++ cur.toList.drop (n * i.size + news.length)).toArray e0 _ hg, hroom, hcm, ?_, ?_⟩⟩, ⟨rfl, rfl, rfl, by simp [World.setRow], fun k _ hk => setRow_other w g k _ (fun e => hk (by simp [Value.ownBlock, e]))⟩, g, cap, rfl, hroom, hcm, .inl rfl⟩
      · simp [Builtin.append_, run_underlying ht, Go.sizeOf, typeInfo, hi, Builtin.lenOf, hroom, hf, Addr.add_lit, hst]
      · simp only [List.size_toArray, List.length_append, List.length_take, List.length_drop, Array.length_toList]
        omega
      · rw [htake, ← hlen]
        exact List.take_left
    · have holds : ∀ j u, xs[j]? = some u → w.cell? ((⟨g, 0, none⟩ : Addr).add j) = some u := hown.cells (g := g) rfl
      have hge := grownCap_ge w (n + m) cap e
      have hcm' := grownCap_le_maxLen w (n + m) cap e (by omega)
      refine ⟨_, _, e, run_append_grow (P := P) w t ty e i z ht hi hz ⟨g, 0, none⟩ n cap xs hown.1 holds a m c news hl hnews (by omega) (by omega) (growslice_fits (by omega) hbytes), ?_, grown_drew_alloc _ _, w.heap.size, _, rfl, hge, hcm', .inr (Nat.le_refl _)⟩
      have := fresh_row (w := w) (e := e) (size := i.size) (n := n + m) (cap := grownCap w (n + m) cap e) (cs := xs ++ news ++ (Builtin.zeroCells z.cells (grownCap w (n + m) cap e - (n + m))).toList) (xs := xs ++ news) hlen (by rw [← hlen, List.take_left]) (by
        have e9 : (Builtin.zeroCells z.cells (grownCap w (n + m) cap e - (n + m))).toList.length = (grownCap w (n + m) cap e - (n + m)) * z.cells.size := by rw [Array.length_toList, size_zeroCells]
        rw [List.length_append, e9, hzs, hlen, ← Nat.add_mul]; congr 1; omega) hge hcm' w.drew rfl
      rw [show (xs ++ news ++ (Builtin.zeroCells z.cells (grownCap w (n + m) cap e - (n + m))).toList).toArray = xs.toArray ++ news.toArray ++ Builtin.zeroCells z.cells (grownCap w (n + m) cap e - (n + m)) by rw [← Array.toList_inj]; simp] at this
      exact this
theorem flat_take (ks : List Kd) (xs : List (Tup ks)) (a : Nat) (h : a ≤ xs.length) : flat ks (xs.take a) = (flat ks xs).take (a * ks.length) := by
  have e : flat ks xs = flat ks (xs.take a) ++ flat ks (xs.drop a) := by rw [← flat_append, List.take_append_drop]
  have hl : (flat ks (xs.take a)).length = a * ks.length := by rw [flat_length, List.length_take, Nat.min_eq_left h]
  rw [e, ← hl, List.take_left]
theorem flat_drop (ks : List Kd) (xs : List (Tup ks)) (a : Nat) (h : a ≤ xs.length) : flat ks (xs.drop a) = (flat ks xs).drop (a * ks.length) := by
  have e : flat ks xs = flat ks (xs.take a) ++ flat ks (xs.drop a) := by rw [← flat_append, List.take_append_drop]
  have hl : (flat ks (xs.take a)).length = a * ks.length := by rw [flat_length, List.length_take, Nat.min_eq_left h]
  conv => rhs; rw [e, ← hl, List.drop_left]
theorem own_ok {e : TypeId} {size n : Nat} {v : Value} {xs : List Value} (h : w.ownsRow 0 e size v n xs) : ∃ base cap, v = .slice base n cap ∧ okSl base n cap := by
  rcases h.2 with ⟨rfl, rfl⟩ | ⟨g, cap, cur, rfl, _, _, h1, h2, _⟩
  · exact ⟨none, 0, rfl, ⟨by omega, Nat.zero_le _⟩, nofun, fun _ => rfl⟩
  · exact ⟨_, cap, rfl, ⟨h1, h2⟩, fun x hx => by cases hx; rfl, nofun⟩
/-- A row of the walk's own, cut short. -/
theorem own_cut {ks : List Kd} {xs : List (Tup ks)} {e0 : TypeId} {l z b : Nat} {u : Value} (hown : w.ownsRow 0 e0 ks.length (ν.sv l) xs.length (flat ks xs)) (hs : relA ν N (.sb l z 0 b) u) :
    w.ownsRow 0 e0 ks.length u b (flat ks (xs.take b)) ∧ b ≤ xs.length ∧ u.ownBlock = (ν.sv l).ownBlock := by
  obtain ⟨hl, base, n, cap, base', hsv, hab, hbn, hok, rfl, hba, hok'⟩ := hs
  have hb := hba (.inr rfl)
  have hb2 : base' = base := by
    rw [hb]
    cases base with
    | none => rfl
    | some x =>
      show some (⟨x.block, x.off + 0 * z, none⟩ : Addr) = some x
      rw [Nat.zero_mul, Nat.add_zero, ← spotless (hok.2.1 x rfl)]
  subst hb2
  rcases hown.2 with ⟨h1, h2⟩ | ⟨g, cap', cur, h1, h2, h3, h4, h5, h6, h7⟩
  · rw [hsv] at h1
    obtain ⟨q1, q2, q3⟩ := slice_inj h1
    subst q1
    have hb0 : b = 0 := by omega
    subst hb0
    subst q3
    refine ⟨World.ownsRow_nil w 0 e0 ks.length, Nat.zero_le _, ?_⟩
    rw [hsv]
    rfl
  · rw [hsv] at h1
    obtain ⟨q1, q2, q3⟩ := slice_inj h1
    subst q1
    subst q3
    have hbx : b ≤ xs.length := by omega
    refine ⟨⟨by rw [flat_length, List.length_take, Nat.min_eq_left hbx], .inr ⟨g, cap, cur, rfl, h2, h3, by omega, h5, h6, ?_⟩⟩, hbx, by rw [hsv]; rfl⟩
    rw [flat_take ks xs b hbx, ← h7, List.take_take, Nat.min_eq_left (Nat.mul_le_mul_right _ hbx)]
theorem bytes_info {e : TypeId} {i : TypeInfo} (h : P.info? e = some i) : P.bytesOf e = i.bytes := by simp [Program.bytesOf, h]
theorem append_nothing {t ty e e0 : TypeId} {i : TypeInfo} (ht : P.underlying t = some (.slice e)) (hi : P.info? e = some i) {v : Value} {n : Nat} {xs : List Value} (hown : w.ownsRow 0 e0 i.size v n xs) {base : Option Addr} {c : Nat} :
    (Builtin.append_ #[t, t] ty #[v, .slice base 0 c]).run P w = .ok v w := by
  rcases hown.2 with ⟨rfl, rfl⟩ | ⟨g, cap, cur, rfl, _, _, hnc, _⟩
  · cases base <;> simp [Builtin.append_, run_underlying ht, Go.sizeOf, typeInfo, hi, Builtin.lenOf, Builtin.firstCells, loadCells, loadCellsFrom]
  · cases base <;> simp [Builtin.append_, run_underlying ht, Go.sizeOf, typeInfo, hi, Builtin.lenOf, Builtin.firstCells, hnc, storeCells, loadCells, loadCellsFrom]
theorem hpH_up (hH : hpH ν N w H) {N' : Nat} (h : N ≤ N') : hpH ν N' w H :=
  ⟨fun l o hl => ⟨Nat.lt_of_lt_of_le (hH.ob l o hl).1 h, obH_kept (fun _ _ => ⟨rfl, rfl⟩) h (Nat.le_refl _) (hH.ob l o hl).1 rfl (fun _ _ => rfl) (hH.ob l o hl).2⟩, fun l o hl => Nat.lt_of_lt_of_le (hH.st l o hl) h, hH.ap⟩
/-- To nothing, with no room behind it. -/
theorem append_zero {t ty e : TypeId} {i : TypeInfo} {z : Value} (ht : P.underlying t = some (.slice e)) (hi : P.info? e = some i) (hz : i.zero = some z) (hzs : z.cells.size = i.size) {b a : Addr} {m c : Nat} {news : List Value} (hl : news.length = m * i.size)
    (hnews : ∀ j u, news[j]? = some u → w.cell? (a.add j) = some u) (h63 : m ≤ 140737488355328) (hbytes : m * i.bytes ≤ 140737488355328) (hm : 0 < m) :
    ∃ w' cap, (Builtin.append_ #[t, t] ty #[.slice (some b) 0 0, .slice (some a) m c]).run P w = .ok (.slice (some ⟨w.heap.size, 0, none⟩) m cap) w' ∧ w'.ownsRow 0 e i.size (.slice (some ⟨w.heap.size, 0, none⟩) m cap) m news ∧ w.grownBy w' none ∧ m ≤ cap ∧ cap ≤ maxLen := by
  have hmx : (140737488355328 : Nat) ≤ maxLen := by decide
  have hge := grownCap_ge w m 0 e
  have hcm := grownCap_le_maxLen w m 0 e (by omega)
  have hrun := run_append_grow (P := P) w t ty e i z ht hi hz b 0 0 [] (by simp) (by simp) a m c news hl hnews (by omega) (by omega) (by rw [Nat.zero_add, nextslicecap_zero hm]; omega)
  rw [Nat.zero_add] at hrun
  refine ⟨_, _, hrun, ?_, grown_drew_alloc _ _, hge, hcm⟩
  have := fresh_row (w := w) (e := e) (size := i.size) (n := m) (cap := grownCap w m 0 e) (cs := news ++ (Builtin.zeroCells z.cells (grownCap w m 0 e - m)).toList) (xs := news) hl (by rw [← hl, List.take_left]) (by
    have e9 : (Builtin.zeroCells z.cells (grownCap w m 0 e - m)).toList.length = (grownCap w m 0 e - m) * z.cells.size := by rw [Array.length_toList, size_zeroCells]
    rw [List.length_append, e9, hzs, hl, ← Nat.add_mul]; congr 1; omega) hge hcm w.drew rfl
  rw [show (news ++ (Builtin.zeroCells z.cells (grownCap w m 0 e - m)).toList).toArray = [].toArray ++ news.toArray ++ Builtin.zeroCells z.cells (grownCap w m 0 e - m) by rw [← Array.toList_inj]; simp] at this
  exact this
theorem append_none {t ty e : TypeId} {i : TypeInfo} (ht : P.underlying t = some (.slice e)) (hi : P.info? e = some i) {b base : Option Addr} {c : Nat} :
    (Builtin.append_ #[t, t] ty #[.slice b 0 0, .slice base 0 c]).run P w = .ok (.slice b 0 0) w := by
  cases b <;> cases base <;> simp [Builtin.append_, run_underlying ht, Go.sizeOf, typeInfo, hi, Builtin.lenOf, Builtin.firstCells, storeCells, loadCells, loadCellsFrom]
theorem append_sound (hH : hpH ν N w H) {t ty : TypeId} {s x : R} {u v : Value} (hs : relR ν N s u) (hx : relR ν N x v) (h : append P H N t s x fun r H => K r H (N + 1)) :
    ∃ z w', (Builtin.append_ #[t, t] ty #[u, v]).run P w = .ok z w' ∧ Goes ν N H w K z w' := by
  unfold append at h
  split at h
  · exact h.elim
  rename_i e he
  have hu := elemT_some he
  split at h
  · exact h.elim
  rename_i ks hks
  obtain ⟨i, z, hi, hz, hsz, hk, hzc, hzs, hco⟩ := rowT_some hks
  split at h
  · exact h.elim
  rename_i ys hys
  -- the source's cells
  have hsrc := source_sound hH hx hys
  have key : ∀ {xs : List (Tup ks)} {e0 : TypeId} (c : Option Nat), w.ownsRow 0 e0 ks.length u xs.length (flat ks xs) → wfT ks xs → (∀ l, c = some l → ∃ o, hget H l = some o ∧ ownOb o = true ∧ ∀ b, u.ownBlock = some b → fpO ν l o b) → (c = none → u.ownBlock = none) →
      xs.length + ys.length ≤ 140737488355328 → (xs.length + ys.length) * P.bytesOf e ≤ 140737488355328 → K (.a (.f N (xs.length + ys.length))) ((N, N, .row true ks (xs ++ ys)) :: goneH H N c) (N + 1) →
      ∃ z w', (Builtin.append_ #[t, t] ty #[u, v]).run P w = .ok z w' ∧ Goes ν N H w K z w' := by
    intro xs e0 c hown hw hc hc0 h63 hby hK
    rw [← hsz] at hown
    rw [bytes_info hi] at hby
    by_cases hm : ys = []
    · subst hm
      have hv : ∃ base c, v = .slice base 0 c := by
        rcases hsrc with ⟨rfl, _⟩ | ⟨_, base, cap, rfl, _⟩
        · exact ⟨none, 0, rfl⟩
        · exact ⟨base, cap, rfl⟩
      obtain ⟨base, cap, rfl⟩ := hv
      refine ⟨u, w, append_nothing hu hi hown, newRow hH c (fun l hl => ?_) (fun hc' b hb => by rw [hc0 hc'] at hb; cases hb) (Go1.refl _ _) (fun _ _ _ _ _ _ => rfl) hk (xs := xs ++ []) (by simpa using hw) (by rw [List.append_nil, ← hsz]; exact hown) (by rw [List.append_nil]; exact own_ok hown) (by simp) hK⟩
      obtain ⟨o, h1, h2, h3⟩ := hc l hl
      exact ⟨o, h1, h2, fun b hb => .inr (h3 b hb)⟩
    · rcases hsrc with ⟨_, h0⟩ | ⟨hwy, base, cap, rfl, hok, hcell⟩
      · exact absurd h0 hm
      obtain ⟨v0, hv0⟩ := flat_ne hk hm
      obtain ⟨a, rfl, _⟩ := hcell 0 v0 hv0
      have hpos : 0 < ys.length := List.length_pos_iff.2 hm
      obtain ⟨v', w', e', h1, h2, h3, g, cap', hv', hg1, hg2, hg3⟩ := run_append_any (c := cap) (ty := ty) hu hi hz (by omega) hown (a := a) (m := ys.length) (news := flat ks ys) (by rw [flat_length, hsz]) (fun j q hq => by
        obtain ⟨a', ha', hc'⟩ := hcell j q hq
        cases ha'
        exact hc') (vals_one ys) h63 hby hpos
      have hob : v'.ownBlock = some g := by rw [hv']; rfl
      rw [← flat_append, ← List.length_append, hsz] at h2
      refine ⟨v', w', h1, newRow hH c (fun l hl => ?_) (fun hc' b hb => ?_) (Go1.grown h3 fun b hb => ?_) (fun l o hl hg b hb => ?_) hk (xs := xs ++ ys) (fun q hq => (List.mem_append.1 hq).elim (hw q) (hwy q)) h2 ⟨some ⟨g, 0, none⟩, cap', by rw [hv', List.length_append], ⟨by rw [List.length_append]; omega, hg2⟩, fun x hx => by cases hx; rfl, nofun⟩ (by simp) hK⟩
      · obtain ⟨o, q1, q2, q3⟩ := hc l hl
        refine ⟨o, q1, q2, fun b hb => ?_⟩
        rw [hob] at hb
        cases hb
        rcases hg3 with h | h
        · exact .inr (q3 _ h)
        · exact .inl h
      · rw [hob] at hb
        cases hb
        rcases hg3 with h | h
        · rw [hc0 hc'] at h; cases h
        · exact h
      · cases c with
        | none => rw [hc0 rfl] at hb; cases hb
        | some l =>
          obtain ⟨o, q1, q2, q3⟩ := hc l rfl
          exact ⟨l, o, q1, q2, by have := q3 b hb; cases o <;> first | exact this | cases q2⟩
      · refine h3.block b (fp_lt (hH.ob l o hg).2 hb) fun hb' => ?_
        cases c with
        | none => rw [hc0 rfl] at hb'; cases hb'
        | some m =>
          obtain ⟨om, q1, q2, q3⟩ := hc m rfl
          exact hH.ap l m o om (fun e => hl (by rw [e])) hg q1 (.inr q2) b hb (q3 b hb'.symm)
  split at h
  · obtain ⟨⟨hb1, hb2⟩, h⟩ := h
    cases hs
    refine key (xs := []) (e0 := e) none ?_ (by simp [wfT]) nofun (fun _ => rfl) (by simpa using hb2) (by simpa using hb1) (by simpa [goneH] using h)
    exact World.ownsRow_nil w 0 e ks.length
  · obtain ⟨b, rfl, hsp⟩ := hs
    unfold ifB at h
    split at h
    · rename_i hempty
      have hm : ys = [] := by simpa using hempty
      subst hm
      have hv : ∃ base c, v = .slice base 0 c := by
        rcases hsrc with ⟨rfl, _⟩ | ⟨_, base, cap, rfl, _⟩
        · exact ⟨none, 0, rfl⟩
        · exact ⟨base, cap, rfl⟩
      obtain ⟨base, cap, rfl⟩ := hv
      exact ⟨_, w, append_none hu hi, ν, N + 1, H, .a .z, (show relA ν (N + 1) .z (.slice b 0 0) from ⟨b, rfl, hsp⟩), hpH_up hH (Nat.le_succ N), Mv.stay _ _ _ _ _ (Nat.le_succ N), h⟩
    · rename_i hempty
      have hm : ys ≠ [] := by simpa using hempty
      obtain ⟨⟨hb1, hb2⟩, h⟩ := h
      cases b with
      | none =>
        refine key (xs := []) (e0 := e) none ?_ (by simp [wfT]) nofun (fun _ => rfl) (by simpa using hb2) (by simpa using hb1) (by simpa [goneH] using h)
        exact World.ownsRow_nil w 0 e ks.length
      | some b =>
        rcases hsrc with ⟨_, h0⟩ | ⟨hwy, base, cap, rfl, hok, hcell⟩
        · exact absurd h0 hm
        obtain ⟨v0, hv0⟩ := flat_ne hk hm
        obtain ⟨a, rfl, _⟩ := hcell 0 v0 hv0
        rw [bytes_info hi] at hb1
        obtain ⟨w', cap', h1, h2, h3, h4, h5⟩ := append_zero (P := P) (w := w) (ty := ty) (b := b) (a := a) (c := cap) hu hi hz (by omega) (m := ys.length) (news := flat ks ys) (by rw [flat_length, hsz]) (fun j q hq => by
          obtain ⟨a', ha', hc'⟩ := hcell j q hq
          cases ha'
          exact hc') hb2 hb1 (List.length_pos_iff.2 hm)
        rw [hsz] at h2
        refine ⟨_, w', h1, newRow hH none nofun (fun _ b hb => by cases hb; exact Nat.le_refl _) (Go1.grown h3 nofun) (fun l o _ hg b hb => h3.block b (fp_lt (hH.ob l o hg).2 hb) nofun) hk hwy h2 ⟨_, cap', rfl, ⟨h4, h5⟩, fun x hx => by cases hx; rfl, nofun⟩ rfl h⟩
  · rename_i l n
    obtain ⟨hl, rfl, base, cap, hsv, hok⟩ := hs
    split at h
    · rename_i ks' xs' hg
      split at h
      · rename_i xs hcast
        obtain ⟨e1, e2⟩ := castRow_some hcast
        subst e1
        subst e2
        obtain ⟨⟨hb1, hb2⟩, h⟩ := h
        obtain ⟨_, hw, hfp, e0, hown⟩ := (hH.ob _ _ hg).2
        obtain ⟨base', cap', hsv', _⟩ := own_ok hown
        rw [hsv] at hsv'
        obtain ⟨_, hn, _⟩ := slice_inj hsv'
        subst hn
        exact key (some l) hown hw (fun m hm => by cases hm; exact ⟨_, hg, rfl, fun b hb => (hfp b).2 hb⟩) nofun hb2 hb1 h
      · exact h.elim
    · exact h.elim
  · rename_i l z' a b
    split at h
    · rename_i ks' xs' hg hz'
      simp only [Bool.and_eq_true] at hz'
      have ha' := Nat.eq_of_beq_eq_true hz'.2
      subst ha'
      have hz' := Nat.eq_of_beq_eq_true hz'.1
      split at h
      · rename_i xs hcast
        obtain ⟨e1, e2⟩ := castRow_some hcast
        subst e1
        subst e2
        obtain ⟨⟨hb1, hb2⟩, h⟩ := h
        obtain ⟨_, hw, hfp, e0, hown⟩ := (hH.ob _ _ hg).2
        obtain ⟨h1, h2, h3⟩ := own_cut hown hs
        have hlen : (xs'.take b).length = b := by rw [List.length_take]; omega
        refine key (xs := xs'.take b) (some l) (by rw [hlen]; exact h1) (fun q hq => hw q (List.mem_of_mem_take hq)) (fun m hm => by cases hm; exact ⟨_, hg, rfl, fun b hb => (hfp b).2 (by rw [← h3]; exact hb)⟩) nofun (by rw [hlen]; exact hb2) (by rw [hlen]; exact hb1) ?_
        rw [hlen]
        exact h
      · exact h.elim
    · exact h.elim
  · exact h.elim
theorem mid_length {α : Type} (xs : List α) (a : Nat) (ys : List α) (h : a + ys.length ≤ xs.length) : (mid xs a ys).length = xs.length := by
  simp only [mid, List.length_append, List.length_take, List.length_drop]; omega
theorem flat_mid_set (ks : List Kd) (xs : List (Tup ks)) (a : Nat) (ys : List (Tup ks)) (h : a + ys.length ≤ xs.length) : flat ks (mid xs a ys) = setAtV (flat ks xs) (a * ks.length) (flat ks ys) := by
  have hb : a * ks.length + ys.length * ks.length ≤ xs.length * ks.length := by rw [← Nat.add_mul]; exact Nat.mul_le_mul_right _ h
  rw [setAtV_eq _ _ _ (by rw [flat_length, flat_length]; exact hb), flat_length, ← Nat.add_mul, ← flat_take _ _ _ (by omega), ← flat_drop _ _ _ (by omega), mid, flat_append, flat_append, List.append_assoc]
theorem mid_mem {α : Type} {xs : List α} {a : Nat} {ys : List α} {x : α} (h : x ∈ mid xs a ys) : x ∈ xs ∨ x ∈ ys := by
  simp only [mid, List.mem_append] at h
  rcases h with h | h | h
  · exact .inl (List.mem_of_mem_take h)
  · exact .inr h
  · exact .inl (List.mem_of_mem_drop h)
theorem mid_nil {α : Type} (xs : List α) (a : Nat) : mid xs a [] = xs := by simp [mid]
/-- Cells of a row of the walk's own, written from element a on. -/
theorem row_written (hH : hpH ν N w H) {l : Nat} {ks : List Kd} {xs : List (Tup ks)} (hg : hget H l = some (.row true ks xs)) {a : Nat} {ys : List (Tup ks)} (hw : wfT ks ys) (hfit : a + ys.length ≤ xs.length) {r : R} {v : Value} (hr : relR ν (N + 1) r v)
    (h : K r (hset H l N (.row true ks (mid xs a ys))) (N + 1)) (hne : ys ≠ []) :
    ∃ g cap cur e, ν.sv l = .slice (some ⟨g, 0, none⟩) xs.length cap ∧ w.heap[g]? = some (.cells cur e (0, 0)) ∧ a * ks.length + (flat ks ys).length ≤ cur.size ∧
      Goes ν N H w K v (w.setRow g (setAtV cur.toList (a * ks.length) (flat ks ys)).toArray) := by
  obtain ⟨hk, hwx, hfp, e, hown⟩ := (hH.ob _ _ hg).2
  have hpos : 0 < ys.length := List.length_pos_iff.2 hne
  rcases hown.2 with ⟨h4, h5⟩ | ⟨g, cap, cur, h4, h5, h6, h7, h8, h9, h10⟩
  · omega
  have hb : a * ks.length + ys.length * ks.length ≤ xs.length * ks.length := by rw [← Nat.add_mul]; exact Nat.mul_le_mul_right _ hfit
  have hb2 : xs.length * ks.length ≤ cur.size := by rw [h9]; exact Nat.mul_le_mul_right _ h7
  have hfl := flat_length ks ys
  refine ⟨g, cap, cur, e, h4, h6, by omega, setOwn (o' := .row true ks (mid xs a ys)) hH hg rfl (fun b hb => hb) (go_setRow ((hfp g).2 (by rw [h4]; rfl))) ?_ hr h⟩
  refine ⟨hk, fun x hx => (mid_mem hx).elim (hwx x) (hw x), hfp, e, by rw [flat_length], .inr ⟨g, cap, _, by rw [h4, mid_length _ _ _ hfit], h5, setRow_heap w g cur _ e _ h6, by rw [mid_length _ _ _ hfit]; exact h7, h8, by simp [setAtV_length, h9], ?_⟩⟩
  rw [mid_length _ _ _ hfit, flat_mid_set _ _ _ _ hfit, ← h10]
  have e1 := List.take_append_drop (xs.length * ks.length) cur.toList
  have e2 : (cur.toList.take (xs.length * ks.length)).length = xs.length * ks.length := by have e3 : cur.toList.length = cur.size := Array.length_toList; rw [List.length_take]; omega
  conv => lhs; rw [← e1]
  simp only []
  rw [setAtV_append_left _ _ _ _ (by rw [e2]; omega), List.take_left' (by rw [setAtV_length, e2])]
theorem row_unwritten (hH : hpH ν N w H) {l : Nat} {ks : List Kd} {xs : List (Tup ks)} (hg : hget H l = some (.row true ks xs)) {r : R} {v : Value} (hr : relR ν (N + 1) r v)
    (h : K r (hset H l N (.row true ks xs)) (N + 1)) : Goes ν N H w K v w :=
  setOwn (o' := .row true ks xs) hH hg rfl (fun b hb => hb) (Go1.refl _ _) (obH_kept (fun _ _ => ⟨rfl, rfl⟩) (Nat.le_succ N) (Nat.le_refl _) (hH.ob _ _ hg).1 rfl (fun _ _ => rfl) (hH.ob _ _ hg).2) hr h
theorem zeros_list (z : Array Value) : ∀ (n : Nat), (((Array.range (n * z.size)).map fun i => z[i % z.size]!)).toList = (List.replicate n z.toList).flatten
  | 0 => by simp
  | n + 1 => by
    have ih := zeros_list z n
    simp only [Array.toList_map, Array.toList_range] at ih ⊢
    rw [Nat.succ_mul, List.range_add, List.map_append, ih, List.replicate_succ', List.flatten_append]
    congr 1
    simp only [List.map_map, List.flatten_singleton]
    apply List.ext_getElem
    · simp
    · intro j h1 h2
      have hj : j < z.size := by simpa using h2
      simp [Nat.mul_add_mod_of_lt hj, Nat.mod_eq_of_lt hj, getElem!_pos z j hj]
theorem flat_replicate (ks : List Kd) (n : Nat) (x : Tup ks) : flat ks (List.replicate n x) = (List.replicate n ((leafs ks x).map L.val)).flatten := by
  induction n with
  | zero => rfl
  | succ n ih => rw [List.replicate_succ, flat_cons, ih, List.replicate_succ, List.flatten_cons]
end
end Sx
