/- A symbolic walk: worlds that go on, and heaps that are kept. -/
import Derived.Test.YtcilcmbailoeaaaSxH
set_option linter.all false
namespace Sx
open Go
/-- But for the blocks of F, and new ones, the world is as it was. -/
structure Go1 (F : Nat → Prop) (w w' : World) : Prop where
  os : w'.os = w.os
  tape : w'.tape = w.tape
  output : w'.output = w.output
  size : w.heap.size ≤ w'.heap.size
  block : ∀ k, k < w.heap.size → ¬ F k → w'.heap[k]? = w.heap[k]?
theorem Go1.refl (F : Nat → Prop) (w : World) : Go1 F w w := ⟨rfl, rfl, rfl, Nat.le_refl _, fun _ _ _ => rfl⟩
theorem Go1.mono {F G : Nat → Prop} {w w' : World} (h : Go1 F w w') (hs : ∀ b, F b → G b) : Go1 G w w' := ⟨h.os, h.tape, h.output, h.size, fun k hk hg => h.block k hk fun hf => hg (hs k hf)⟩
theorem Go1.trans {F G : Nat → Prop} {w w1 w2 : World} (h : Go1 F w w1) (k : Go1 G w1 w2) (hs : ∀ b, G b → F b ∨ w.heap.size ≤ b) : Go1 F w w2 :=
  ⟨k.os.trans h.os, k.tape.trans h.tape, k.output.trans h.output, Nat.le_trans h.size k.size, fun b hb hf => (k.block b (Nat.lt_of_lt_of_le hb h.size) fun hg => (hs b hg).elim hf (fun h => by omega)).trans (h.block b hb hf)⟩
theorem Go1.grown {w w' : World} {r : Option Nat} {F : Nat → Prop} (h : w.grownBy w' r) (hr : ∀ b, r = some b → F b) : Go1 F w w' :=
  ⟨h.os, h.tape, h.output, h.size, fun k hk hf => h.block k hk fun e => hf (hr k e.symm)⟩
/-- What may be written. -/
def own (ν : Nu) (H : Hp) (b : Nat) : Prop := ∃ l o, hget H l = some o ∧ ownOb o = true ∧ ν.fp l b
def agree (N : Nat) (ν ν' : Nu) : Prop := ∀ l, l < N → ν'.blk l = ν.blk l ∧ ν'.sv l = ν.sv l
structure Mv (ν : Nu) (N : Nat) (H : Hp) (w : World) (ν' : Nu) (N' : Nat) (H' : Hp) (w' : World) : Prop where
  go : Go1 (own ν H) w w'
  own : ∀ b, own ν' H' b → own ν H b ∨ w.heap.size ≤ b
  ag : agree N ν ν'
  le : N ≤ N'
  kp : ∀ l o, hget H l = some o → hst H' l = hst H l → hget H' l = some o ∧ ν'.fp l = ν.fp l ∧ ∀ b, fpO ν l o b → w'.heap[b]? = w.heap[b]?
  mono : ∀ l, hst H' l = hst H l ∨ N ≤ hst H' l
theorem Mv.stay (ν : Nu) (N N' : Nat) (H : Hp) (w : World) (h : N ≤ N') : Mv ν N H w ν N' H w := ⟨Go1.refl _ _, fun _ h => .inl h, fun _ _ => ⟨rfl, rfl⟩, h, fun _ _ h _ => ⟨h, rfl, fun _ _ => rfl⟩, fun _ => .inl rfl⟩
theorem Mv.trans {ν ν1 ν2 : Nu} {N N1 N2 : Nat} {H H1 H2 : Hp} {w w1 w2 : World} (hst0 : ∀ l o, hget H l = some o → hst H l < N) (h : Mv ν N H w ν1 N1 H1 w1) (k : Mv ν1 N1 H1 w1 ν2 N2 H2 w2) : Mv ν N H w ν2 N2 H2 w2 := by
  refine ⟨h.go.trans k.go h.own, fun b hb => (k.own b hb).elim (h.own b) fun hb => .inr (Nat.le_trans h.go.size hb),
    fun l hl => ⟨(k.ag l (Nat.lt_of_lt_of_le hl h.le)).1.trans (h.ag l hl).1, (k.ag l (Nat.lt_of_lt_of_le hl h.le)).2.trans (h.ag l hl).2⟩, Nat.le_trans h.le k.le, fun l o hl he => ?_, fun l => ?_⟩
  · have h0 := hst0 l o hl
    have hle := h.le
    have h1 : hst H1 l = hst H l := by
      rcases h.mono l with h1 | h1
      · exact h1
      · rcases k.mono l with h2 | h2 <;> omega
    obtain ⟨p1, p2, p3⟩ := h.kp l o hl h1
    obtain ⟨q1, q2, q3⟩ := k.kp l o p1 (he.trans h1.symm)
    exact ⟨q1, q2.trans p2, fun b hb => (q3 b (by cases o <;> first | exact hb | (show ν1.fp l b; rw [p2]; exact hb))).trans (p3 b hb)⟩
  · have hle := h.le
    rcases k.mono l with h2 | h2
    · rcases h.mono l with h1 | h1
      · exact .inl (h2.trans h1)
      · exact .inr (by omega)
    · exact .inr (by omega)
section
variable {ν ν' : Nu} {N N' : Nat} {w w' : World}
theorem relA_mono (hag : agree N ν ν') (hN : N ≤ N') {a : A} {v : Value} (h : relA ν N a v) : relA ν' N' a v := by
  cases a with
  | junk => trivial
  | l x => exact h
  | p l o => exact ⟨Nat.lt_of_lt_of_le h.1 hN, by rw [(hag l h.1).1]; exact h.2⟩
  | e l z i o => exact ⟨Nat.lt_of_lt_of_le h.1 hN, by rw [(hag l h.1).2]; exact h.2⟩
  | np => exact h
  | f l n => exact ⟨Nat.lt_of_lt_of_le h.1 hN, by rw [(hag l h.1).2]; exact h.2⟩
  | sb l z a b => exact ⟨Nat.lt_of_lt_of_le h.1 hN, by rw [(hag l h.1).2]; exact h.2⟩
  | ns => exact h
  | z => exact h
  | fn f cs =>
    refine ⟨fun q hq => Nat.lt_of_lt_of_le (h.1 q hq) hN, h.2.trans ?_⟩
    congr 1
    congr 1
    exact List.map_congr_left fun q hq => by rw [(hag q.1 (h.1 q hq)).1]
  | o x => exact h
  | c l n => exact ⟨Nat.lt_of_lt_of_le h.1 hN, h.2.1, by rw [(hag l h.1).1]; exact h.2.2⟩
theorem relC_mono (hag : agree N ν ν') (hN : N ≤ N') {a : A} {v : Value} (h : relC ν N a v) : relC ν' N' a v := ⟨relA_mono hag hN h.1, h.2⟩
theorem relAs_mono (hag : agree N ν ν') (hN : N ≤ N') : ∀ {as : List A} {vs : List Value}, relAs ν N as vs → relAs ν' N' as vs
  | [], [], _ => trivial
  | _ :: _, _ :: _, h => ⟨relC_mono hag hN h.1, relAs_mono hag hN h.2⟩
  | [], _ :: _, h => h.elim
  | _ :: _, [], h => h.elim
theorem relV_mono (hag : agree N ν ν') (hN : N ≤ N') {a : V} {v : Value} (h : relV ν N a v) : relV ν' N' a v := by
  cases a with
  | one a => exact relA_mono hag hN h
  | agg cs => obtain ⟨vs, h1, h2⟩ := h; exact ⟨vs, h1, relAs_mono hag hN h2⟩
theorem relVs_mono (hag : agree N ν ν') (hN : N ≤ N') : ∀ {as : List V} {vs : List Value}, relVs ν N as vs → relVs ν' N' as vs
  | [], [], _ => trivial
  | _ :: _, _ :: _, h => ⟨relV_mono hag hN h.1, relVs_mono hag hN h.2⟩
  | [], _ :: _, h => h.elim
  | _ :: _, [], h => h.elim
theorem relR_mono (hag : agree N ν ν') (hN : N ≤ N') {a : R} {v : Value} (h : relR ν N a v) : relR ν' N' a v := by
  cases a with
  | v x => exact relV_mono hag hN h
  | tup xs => obtain ⟨vs, h1, h2⟩ := h; exact ⟨vs, h1, relVs_mono hag hN h2⟩
theorem relT_mono (hag : agree N ν ν') (hN : N ≤ N') {tm : List R} {ts : Array Value} (h : relT ν N tm ts) : relT ν' N' tm ts := ⟨h.1, fun i => relR_mono hag hN (h.2 i)⟩
theorem relT_put {tm : List R} {a : Act} (h : relT ν N tm a.tmps) (d : Option Tmp) {r : R} {v : Value} (hr : relR ν N r v) : relT ν N (put tm d r) (a.put d v).tmps := by
  cases d with
  | none => exact h
  | some d =>
    refine ⟨by simp [put, Act.put, h.1], fun i => ?_⟩
    have hl := h.1
    show relR ν N ((tm.set d r).getD i .junk) ((a.tmps.setIfInBounds d v).getD i undef)
    by_cases hd : i = d
    · subst hd
      by_cases hi : i < a.tmps.size
      · simp [List.getD_eq_getElem?_getD, List.getElem?_set, hl, hi]
        exact hr
      · simp [List.getD_eq_getElem?_getD, List.getElem?_set, hl, hi]
        exact relR_junk _
    · have h1 : (tm.set d r).getD i .junk = tm.getD i .junk := by
        simp [List.getD_eq_getElem?_getD, List.getElem?_set, Ne.symm hd]
      have h2 : (a.tmps.setIfInBounds d v).getD i undef = a.tmps.getD i undef := by
        simp [Array.getD_eq_getD_getElem?, Array.getElem?_setIfInBounds, Ne.symm hd]
      rw [h1, h2]
      exact h.2 i
theorem block_lt {a : Addr} {v : Value} (h : w.cell? a = some v) : a.block < w.heap.size := World.block_lt_of_cell? w a h
theorem heap_lt {b : Nat} {o : Obj} (h : w.heap[b]? = some o) : b < w.heap.size := (Array.getElem?_eq_some_iff.1 h).1
theorem flat_ne {ks : List Kd} {xs : List (Tup ks)} (hk : 0 < ks.length) (hx : xs ≠ []) : ∃ v, (flat ks xs)[0]? = some v := by
  have hl := flat_length ks xs
  have hx' : 0 < xs.length := List.length_pos_iff.2 hx
  have : 0 < (flat ks xs).length := by rw [hl]; exact Nat.mul_pos hx' hk
  exact ⟨_, List.getElem?_eq_getElem this⟩
/-- What is stood for lies in blocks that are there. -/
theorem fp_lt {l : Nat} {o : Ob} (h : obH ν N w l o) {b : Nat} (hb : fpO ν l o b) : b < w.heap.size := by
  cases o with
  | cells cs =>
    obtain ⟨h1, vs, T, h2, _⟩ := h
    have := (h1 b).1 hb
    subst this
    exact heap_lt h2
  | row o ks xs =>
    cases o with
    | true =>
      obtain ⟨_, _, h1, e, h2⟩ := h
      exact (h2.lt b ((h1 b).1 hb)).2
    | false =>
      obtain ⟨hk, _, h1, base, cap, h2, h3, h4⟩ := h
      obtain ⟨h5, h6⟩ := (h1 b).1 hb
      obtain ⟨v, hv⟩ := flat_ne hk h6
      obtain ⟨a, rfl, hc⟩ := h4 0 v hv
      rw [h2] at h5
      simp only [Value.ownBlock, Option.some.injEq] at h5
      have := block_lt hc
      rw [toAddr a (h3.2.1 a rfl)] at this
      have this : a.block < w.heap.size := this
      omega
  | abs r => exact h.1 b hb
  | gone => exact hb.elim
theorem obH_kept (hag : agree N ν ν') (hN : N ≤ N') (hsz : w.heap.size ≤ w'.heap.size) {l : Nat} {o : Ob} (hl : l < N) (hfp : ν'.fp l = ν.fp l) (hw : ∀ b, fpO ν l o b → w'.heap[b]? = w.heap[b]?) (h : obH ν N w l o) : obH ν' N' w' l o := by
  obtain ⟨hb, hs⟩ := hag l hl
  cases o with
  | cells cs =>
    obtain ⟨h1, vs, T, h2, h3⟩ := h
    refine ⟨by rw [hfp, hb]; exact h1, vs, T, ?_, relAs_mono hag hN h3⟩
    rw [hb, hw _ ((h1 _).2 rfl)]
    exact h2
  | row o ks xs =>
    cases o with
    | true =>
      obtain ⟨h0, h0', h1, e, h2⟩ := h
      refine ⟨h0, h0', by rw [hfp, hs]; exact h1, e, ?_⟩
      rw [hs]
      refine ⟨h2.1, ?_⟩
      rcases h2.2 with h | ⟨g, cap, cur, h3, h4, h5, h6⟩
      · exact .inl h
      · refine .inr ⟨g, cap, cur, h3, h4, ?_, h6⟩
        rw [hw g ((h1 g).2 (by rw [h3]; rfl))]
        exact h5
    | false =>
      obtain ⟨h0, h0', h1, base, cap, h2, h3, h4⟩ := h
      refine ⟨h0, h0', by rw [hfp, hs]; exact h1, base, cap, by rw [hs]; exact h2, h3, fun j v hv => ?_⟩
      obtain ⟨a, rfl, hc⟩ := h4 j v hv
      refine ⟨a, rfl, ?_⟩
      have ha := h3.2.1 a rfl
      have hx : xs ≠ [] := by rintro rfl; simp [flat] at hv
      rw [toAddr a ha] at hc ⊢
      rw [World.cell?_of_block (w := w)]
      · exact hc
      · exact hw a.block ((h1 _).2 ⟨by rw [h2]; rfl, hx⟩)
  | abs r =>
    refine ⟨fun b h' => Nat.lt_of_lt_of_le (h.1 b (by rw [← hfp]; exact h')) hsz, fun w2 h2 => ?_⟩
    rw [hb, hfp]
    exact h.2 w2 fun b hb' => (h2 b (by rw [hfp]; exact hb')).trans (hw b hb')
  | gone => trivial
/-- A heap of which most is kept. -/
theorem hpH_upd {H H' : Hp} (hH : hpH ν N w H) (kept : Nat → Prop) (hst' : ∀ l o, hget H' l = some o → hst H' l < N') (hN : N ≤ N') (hag : agree N ν ν') (hsz : w.heap.size ≤ w'.heap.size)
    (hk : ∀ l o, kept l → hget H' l = some o → hget H l = some o ∧ ν'.fp l = ν.fp l)
    (hw : ∀ l o, kept l → hget H l = some o → ∀ b, fpO ν l o b → w'.heap[b]? = w.heap[b]?)
    (hc : ∀ l o, ¬ kept l → hget H' l = some o → l < N' ∧ obH ν' N' w' l o)
    (hf : ∀ l o, ¬ kept l → hget H' l = some o → ∀ b, fpO ν' l o b → w.heap.size ≤ b ∨ ∃ m om, ¬ kept m ∧ hget H m = some om ∧ ownOb om = true ∧ fpO ν m om b)
    (hcc : ∀ l l' o o', l ≠ l' → ¬ kept l → ¬ kept l' → hget H' l = some o → hget H' l' = some o' → (ownOb o = true ∨ ownOb o' = true) → ∀ b, fpO ν' l o b → fpO ν' l' o' b → False) : hpH ν' N' w' H' := by
  have fpk : ∀ l o b, ν'.fp l = ν.fp l → fpO ν' l o b → fpO ν l o b := fun l o b h hb => by cases o <;> first | exact hb | (show ν.fp l b; rw [← h]; exact hb)
  refine ⟨fun l o hl => ?_, hst', fun l l' o o' hne hl hl' hown b hb hb' => ?_⟩
  · by_cases h : kept l
    · obtain ⟨h1, h2⟩ := hk l o h hl
      obtain ⟨h3, h4⟩ := hH.ob l o h1
      exact ⟨Nat.lt_of_lt_of_le h3 hN, obH_kept hag hN hsz h3 h2 (hw l o h h1) h4⟩
    · exact hc l o h hl
  · by_cases h : kept l <;> by_cases h' : kept l'
    · obtain ⟨h1, h2⟩ := hk l o h hl
      obtain ⟨h1', h2'⟩ := hk l' o' h' hl'
      exact hH.ap l l' o o' hne h1 h1' hown b (fpk _ _ _ h2 hb) (fpk _ _ _ h2' hb')
    · obtain ⟨h1, h2⟩ := hk l o h hl
      have hlt := fp_lt (hH.ob l o h1).2 (fpk _ _ _ h2 hb)
      rcases hf l' o' h' hl' b hb' with h3 | ⟨m, om, h3, h4, h5, h6⟩
      · omega
      · exact hH.ap l m o om (fun e => h3 (e ▸ h)) h1 h4 (.inr h5) b (fpk _ _ _ h2 hb) h6
    · obtain ⟨h1, h2⟩ := hk l' o' h' hl'
      have hlt := fp_lt (hH.ob l' o' h1).2 (fpk _ _ _ h2 hb')
      rcases hf l o h hl b hb with h3 | ⟨m, om, h3, h4, h5, h6⟩
      · omega
      · exact hH.ap l' m o' om (fun e => h3 (e ▸ h')) h1 h4 (.inr h5) b (fpk _ _ _ h2 hb') h6
    · exact hcc l l' o o' hne h h' hl hl' hown b hb hb'
theorem beq_no {l k : Nat} (h : ¬ l = k) : Nat.beq l k = false := by
  cases hb : Nat.beq l k with
  | false => rfl
  | true => exact absurd (Nat.eq_of_beq_eq_true hb) h
theorem hget_cons (l s : Nat) (o : Ob) (H : Hp) (k : Nat) : hget ((l, s, o) :: H) k = if l = k then some o else hget H k := by
  show (match Nat.beq l k with | true => some o | false => hget H k) = _
  by_cases h : l = k
  · subst h; simp
  · have : Nat.beq l k = false := beq_no h
    simp [this, h]
theorem hget_hset (s : Nat) (o : Ob) (l : Nat) : ∀ (H : Hp) (k : Nat), hget (hset H l s o) k = if l = k then some o else hget H k
  | [], k => by rw [hset, hget_cons]
  | (m, t, o') :: H, k => by
    unfold hset
    by_cases h : m = l
    · subst h
      have : Nat.beq m m = true := by simp
      simp only [this, hget_cons]
      split <;> rfl
    · have hb : Nat.beq m l = false := beq_no h
      simp only [hb, hget_cons, hget_hset s o l H k]
      by_cases h1 : m = k <;> by_cases h2 : l = k
      · exact absurd (h1.trans h2.symm) h
      · simp [h1, h2]
      · simp [h1, h2]
      · simp [h1, h2]
theorem hst_cons (l s : Nat) (o : Ob) (H : Hp) (k : Nat) : hst ((l, s, o) :: H) k = if l = k then s else hst H k := by
  show (match Nat.beq l k with | true => s | false => hst H k) = _
  by_cases h : l = k
  · subst h; simp
  · have : Nat.beq l k = false := beq_no h
    simp [this, h]
theorem hst_hset (s : Nat) (o : Ob) (l : Nat) : ∀ (H : Hp) (k : Nat), hst (hset H l s o) k = if l = k then s else hst H k
  | [], k => by rw [hset, hst_cons]
  | (m, t, o') :: H, k => by
    unfold hset
    by_cases h : m = l
    · subst h
      have : Nat.beq m m = true := by simp
      simp only [this, hst_cons]
      split <;> rfl
    · have hb : Nat.beq m l = false := beq_no h
      simp only [hb, hst_cons, hst_hset s o l H k]
      by_cases h1 : m = k <;> by_cases h2 : l = k
      · exact absurd (h1.trans h2.symm) h
      · simp [h1, h2]
      · simp [h1, h2]
      · simp [h1, h2]
end
end Sx
