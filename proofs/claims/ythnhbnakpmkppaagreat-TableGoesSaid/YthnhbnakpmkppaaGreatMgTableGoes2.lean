import Derived.Lib.AppendZeros
import Derived.Test.YthnhbnakpmkppaaGreatMgTableGoes1
section
set_option linter.all false
namespace Sx
open Go
structure Go1 (F : Nat → Prop) (w w' : World) : Prop where
  os : w'.os = w.os
  tape : w'.tape = w.tape
  output : w'.output = w.output
  size : w.heap.size ≤ w'.heap.size
  block : ∀ k, k < w.heap.size → ¬ F k → w'.heap[k]? = w.heap[k]?
theorem Go1.refl (F : Nat → Prop) (w : World) : Go1 F w w := ⟨rfl, rfl, rfl, Nat.le_refl _, fun _ _ _ => rfl⟩
theorem Go1.mono {F G : Nat → Prop} {w w' : World} (h : Go1 F w w') (hs : ∀ b, F b → G b) : Go1 G w w' := ⟨h.os, h.tape, h.output, h.size, fun k hk hg => h.block k hk fun hf => hg (hs k hf)⟩
theorem Go1.trans {F G : Nat → Prop} {w w1 w2 : World} (h : Go1 F w w1) (k : Go1 G w1 w2) (hs : ∀ b, G b → F b ∨ w.heap.size ≤ b) : Go1 F w w2 :=
  ⟨k.os.trans h.os, k.tape.trans h.tape, k.output.trans h.output, Nat.le_trans h.size k.size, fun b hb hf => (k.block b (Nat.lt_of_lt_of_le hb h.size) fun hg => (hs b hg).elim hf (fun h => by omega)).trans (h.block b hb hf)⟩
theorem Go1.grown {w w' : World} {r : Option Nat} {F : Nat → Prop} (h : w.grownBy w' r) (hr : ∀ b, r = some b → F b) : Go1 F w w' :=
  ⟨h.os, h.tape, h.output, h.size, fun k hk hf => h.block k hk fun e => hf (hr k e.symm)⟩
def own (ν : Nu) (H : Hp) (b : Nat) : Prop := ∃ l o, hget H l = some o ∧ ownOb o = true ∧ ν.fp l b
def agree (N : Nat) (ν ν' : Nu) : Prop := ∀ l, l < N → ν'.blk l = ν.blk l ∧ ν'.sv l = ν.sv l
structure Mv (ν : Nu) (N : Nat) (H : Hp) (w : World) (ν' : Nu) (N' : Nat) (H' : Hp) (w' : World) : Prop where
  go : Go1 (own ν H) w w'
  own : ∀ b, own ν' H' b → own ν H b ∨ w.heap.size ≤ b
  ag : agree N ν ν'
  le : N ≤ N'
  kp : ∀ l o, hget H l = some o → hst H' l = hst H l → hget H' l = some o ∧ ν'.fp l = ν.fp l ∧ ∀ b, fpO ν l o b → w'.heap[b]? = w.heap[b]?
  mono : ∀ l, hst H' l = hst H l ∨ N ≤ hst H' l
theorem Mv.stay (ν : Nu) (N N' : Nat) (H : Hp) (w : World) (h : N ≤ N') : Mv ν N H w ν N' H w := ⟨Go1.refl _ _, fun _ h => .inl h, fun _ _ => ⟨rfl, rfl⟩, h, fun _ _ h _ => ⟨h, rfl, fun _ _ => rfl⟩, fun _ => .inl rfl⟩
theorem Mv.trans {ν ν1 ν2 : Nu} {N N1 N2 : Nat} {H H1 H2 : Hp} {w w1 w2 : World} (hst0 : ∀ l o, hget H l = some o → hst H l < N) (h : Mv ν N H w ν1 N1 H1 w1) (k : Mv ν1 N1 H1 w1 ν2 N2 H2 w2) : Mv ν N H w ν2 N2 H2 w2 := by
  refine ⟨h.go.trans k.go h.own, fun b hb => (k.own b hb).elim (h.own b) fun hb => .inr (Nat.le_trans h.go.size hb),
    fun l hl => ⟨(k.ag l (Nat.lt_of_lt_of_le hl h.le)).1.trans (h.ag l hl).1, (k.ag l (Nat.lt_of_lt_of_le hl h.le)).2.trans (h.ag l hl).2⟩, Nat.le_trans h.le k.le, fun l o hl he => ?_, fun l => ?_⟩
  · have h0 := hst0 l o hl
    have hle := h.le
    have h1 : hst H1 l = hst H l := by
      rcases h.mono l with h1 | h1
      · exact h1
      · rcases k.mono l with h2 | h2 <;> omega
    obtain ⟨p1, p2, p3⟩ := h.kp l o hl h1
    obtain ⟨q1, q2, q3⟩ := k.kp l o p1 (he.trans h1.symm)
    exact ⟨q1, q2.trans p2, fun b hb => (q3 b (by cases o <;> first | exact hb | (show ν1.fp l b; rw [p2]; exact hb))).trans (p3 b hb)⟩
  · have hle := h.le
    rcases k.mono l with h2 | h2
    · rcases h.mono l with h1 | h1
      · exact .inl (h2.trans h1)
      · exact .inr (by omega)
    · exact .inr (by omega)
section
variable {ν ν' : Nu} {N N' : Nat} {w w' : World}
theorem relA_mono (hag : agree N ν ν') (hN : N ≤ N') {a : A} {v : Value} (h : relA ν N a v) : relA ν' N' a v := by
  cases a with
  | junk => trivial
  | l x => exact h
  | p l o => exact ⟨Nat.lt_of_lt_of_le h.1 hN, by rw [(hag l h.1).1]; exact h.2⟩
  | e l z i o => exact ⟨Nat.lt_of_lt_of_le h.1 hN, by rw [(hag l h.1).2]; exact h.2⟩
  | np => exact h
  | f l n => exact ⟨Nat.lt_of_lt_of_le h.1 hN, by rw [(hag l h.1).2]; exact h.2⟩
  | sb l z a b => exact ⟨Nat.lt_of_lt_of_le h.1 hN, by rw [(hag l h.1).2]; exact h.2⟩
  | ns => exact h
  | z => exact h
  | fn f cs =>
    refine ⟨fun q hq => Nat.lt_of_lt_of_le (h.1 q hq) hN, h.2.trans ?_⟩
    congr 1
    congr 1
    exact List.map_congr_left fun q hq => by rw [(hag q.1 (h.1 q hq)).1]
  | o x => exact h
theorem relC_mono (hag : agree N ν ν') (hN : N ≤ N') {a : A} {v : Value} (h : relC ν N a v) : relC ν' N' a v := ⟨relA_mono hag hN h.1, h.2⟩
theorem relAs_mono (hag : agree N ν ν') (hN : N ≤ N') : ∀ {asq : List A} {vs : List Value}, relAs ν N asq vs → relAs ν' N' asq vs
  | [], [], _ => trivial
  | _ :: _, _ :: _, h => ⟨relC_mono hag hN h.1, relAs_mono hag hN h.2⟩
  | [], _ :: _, h => h.elim
  | _ :: _, [], h => h.elim
theorem relV_mono (hag : agree N ν ν') (hN : N ≤ N') {a : V} {v : Value} (h : relV ν N a v) : relV ν' N' a v := by
  cases a with
  | one a => exact relA_mono hag hN h
  | agg cs => obtain ⟨vs, h1, h2⟩ := h; exact ⟨vs, h1, relAs_mono hag hN h2⟩
theorem relVs_mono (hag : agree N ν ν') (hN : N ≤ N') : ∀ {asq : List V} {vs : List Value}, relVs ν N asq vs → relVs ν' N' asq vs
  | [], [], _ => trivial
  | _ :: _, _ :: _, h => ⟨relV_mono hag hN h.1, relVs_mono hag hN h.2⟩
  | [], _ :: _, h => h.elim
  | _ :: _, [], h => h.elim
theorem relR_mono (hag : agree N ν ν') (hN : N ≤ N') {a : R} {v : Value} (h : relR ν N a v) : relR ν' N' a v := by
  cases a with
  | v x => exact relV_mono hag hN h
  | tup xs => obtain ⟨vs, h1, h2⟩ := h; exact ⟨vs, h1, relVs_mono hag hN h2⟩
theorem relT_mono (hag : agree N ν ν') (hN : N ≤ N') {tm : List R} {ts : Array Value} (h : relT ν N tm ts) : relT ν' N' tm ts := ⟨h.1, fun i => relR_mono hag hN (h.2 i)⟩
theorem relT_put {tm : List R} {a : Act} (h : relT ν N tm a.tmps) (d : Option Tmp) {r : R} {v : Value} (hr : relR ν N r v) : relT ν N (put tm d r) (a.put d v).tmps := by
  cases d with
  | none => exact h
  | some d =>
    refine ⟨by simp [put, Act.put, h.1], fun i => ?_⟩
    have hl := h.1
    show relR ν N ((tm.set d r).getD i .junk) ((a.tmps.setIfInBounds d v).getD i undef)
    by_cases hd : i = d
    · subst hd
      by_cases hi : i < a.tmps.size
      · simp [List.getD_eq_getElem?_getD, List.getElem?_set, hl, hi]
        exact hr
      · simp [List.getD_eq_getElem?_getD, List.getElem?_set, hl, hi]
        exact relR_junk _
    · have h1 : (tm.set d r).getD i .junk = tm.getD i .junk := by
        simp [List.getD_eq_getElem?_getD, List.getElem?_set, Ne.symm hd]
      have h2 : (a.tmps.setIfInBounds d v).getD i undef = a.tmps.getD i undef := by
        simp [Array.getD_eq_getD_getElem?, Array.getElem?_setIfInBounds, Ne.symm hd]
      rw [h1, h2]
      exact h.2 i
theorem block_lt {a : Addr} {v : Value} (h : w.cell? a = some v) : a.block < w.heap.size := World.block_lt_of_cell? w a h
theorem heap_lt {b : Nat} {o : Obj} (h : w.heap[b]? = some o) : b < w.heap.size := (Array.getElem?_eq_some_iff.1 h).1
theorem flat_ne {ks : List Kd} {xs : List (Tup ks)} (hk : 0 < ks.length) (hx : xs ≠ []) : ∃ v, (flat ks xs)[0]? = some v := by
  have hl := flat_length ks xs
  have hx' : 0 < xs.length := List.length_pos_iff.2 hx
  have : 0 < (flat ks xs).length := by rw [hl]; exact Nat.mul_pos hx' hk
  exact ⟨_, List.getElem?_eq_getElem this⟩
theorem fp_lt {l : Nat} {o : Ob} (h : obH ν N w l o) {b : Nat} (hb : fpO ν l o b) : b < w.heap.size := by
  cases o with
  | cells cs =>
    obtain ⟨h1, vs, T, h2, _⟩ := h
    have := (h1 b).1 hb
    subst this
    exact heap_lt h2
  | row o ks xs =>
    cases o with
    | true =>
      obtain ⟨_, _, h1, e, h2⟩ := h
      exact (h2.lt b ((h1 b).1 hb)).2
    | false =>
      obtain ⟨hk, _, h1, base, cap, h2, h3, h4⟩ := h
      obtain ⟨h5, h6⟩ := (h1 b).1 hb
      obtain ⟨v, hv⟩ := flat_ne hk h6
      obtain ⟨a, rfl, hc⟩ := h4 0 v hv
      rw [h2] at h5
      simp only [Value.ownBlock, Option.some.injEq] at h5
      have := block_lt hc
      rw [toAddr a (h3.2.1 a rfl)] at this
      have this : a.block < w.heap.size := this
      omega
  | abs r => exact h.1 b hb
  | gone => exact hb.elim
  | crow z n cs =>
    obtain ⟨_, h1, e, vs, h2, _⟩ := h
    exact (h2.lt b ((h1 b).1 hb)).2
theorem obH_kept (hag : agree N ν ν') (hN : N ≤ N') (hsz : w.heap.size ≤ w'.heap.size) {l : Nat} {o : Ob} (hl : l < N) (hfp : ν'.fp l = ν.fp l) (hw : ∀ b, fpO ν l o b → w'.heap[b]? = w.heap[b]?) (h : obH ν N w l o) : obH ν' N' w' l o := by
  obtain ⟨hb, hs⟩ := hag l hl
  cases o with
  | cells cs =>
    obtain ⟨h1, vs, T, h2, h3⟩ := h
    refine ⟨by rw [hfp, hb]; exact h1, vs, T, ?_, relAs_mono hag hN h3⟩
    rw [hb, hw _ ((h1 _).2 rfl)]
    exact h2
  | row o ks xs =>
    cases o with
    | true =>
      obtain ⟨h0, h0', h1, e, h2⟩ := h
      refine ⟨h0, h0', by rw [hfp, hs]; exact h1, e, ?_⟩
      rw [hs]
      refine ⟨h2.1, ?_⟩
      rcases h2.2 with h | ⟨g, cap, cur, h3, h4, h5, h6⟩
      · exact .inl h
      · refine .inr ⟨g, cap, cur, h3, h4, ?_, h6⟩
        rw [hw g ((h1 g).2 (by rw [h3]; rfl))]
        exact h5
    | false =>
      obtain ⟨h0, h0', h1, base, cap, h2, h3, h4⟩ := h
      refine ⟨h0, h0', by rw [hfp, hs]; exact h1, base, cap, by rw [hs]; exact h2, h3, fun j v hv => ?_⟩
      obtain ⟨a, rfl, hc⟩ := h4 j v hv
      refine ⟨a, rfl, ?_⟩
      have ha := h3.2.1 a rfl
      have hx : xs ≠ [] := by rintro rfl; simp [flat] at hv
      rw [toAddr a ha] at hc ⊢
      rw [World.cell?_of_block (w := w)]
      · exact hc
      · exact hw a.block ((h1 _).2 ⟨by rw [h2]; rfl, hx⟩)
  | abs r =>
    refine ⟨fun b h' => Nat.lt_of_lt_of_le (h.1 b (by rw [← hfp]; exact h')) hsz, fun w2 h2 => ?_⟩
    rw [hb, hfp]
    exact h.2 w2 fun b hb' => (h2 b (by rw [hfp]; exact hb')).trans (hw b hb')
  | gone => trivial
  | crow z n cs =>
    obtain ⟨h0, h1, e, vs, h2, h3⟩ := h
    refine ⟨h0, by rw [hfp, hs]; exact h1, e, vs, ?_, relAs_mono hag hN h3⟩
    rw [hs]
    refine ⟨h2.1, ?_⟩
    rcases h2.2 with h | ⟨g, cap, cur, h3, h4, h5, h6⟩
    · exact .inl h
    · refine .inr ⟨g, cap, cur, h3, h4, ?_, h6⟩
      rw [hw g ((h1 g).2 (by rw [h3]; rfl))]
      exact h5
theorem hpH_upd {H H' : Hp} (hH : hpH ν N w H) (kept : Nat → Prop) (hst' : ∀ l o, hget H' l = some o → hst H' l < N') (hN : N ≤ N') (hag : agree N ν ν') (hsz : w.heap.size ≤ w'.heap.size)
    (hk : ∀ l o, kept l → hget H' l = some o → hget H l = some o ∧ ν'.fp l = ν.fp l)
    (hw : ∀ l o, kept l → hget H l = some o → ∀ b, fpO ν l o b → w'.heap[b]? = w.heap[b]?)
    (hc : ∀ l o, ¬ kept l → hget H' l = some o → l < N' ∧ obH ν' N' w' l o)
    (hf : ∀ l o, ¬ kept l → hget H' l = some o → ∀ b, fpO ν' l o b → w.heap.size ≤ b ∨ ∃ m om, ¬ kept m ∧ hget H m = some om ∧ ownOb om = true ∧ fpO ν m om b)
    (hcc : ∀ l l' o o', l ≠ l' → ¬ kept l → ¬ kept l' → hget H' l = some o → hget H' l' = some o' → (ownOb o = true ∨ ownOb o' = true) → ∀ b, fpO ν' l o b → fpO ν' l' o' b → False) : hpH ν' N' w' H' := by
  have fpk : ∀ l o b, ν'.fp l = ν.fp l → fpO ν' l o b → fpO ν l o b := fun l o b h hb => by cases o <;> first | exact hb | (show ν.fp l b; rw [← h]; exact hb)
  refine ⟨fun l o hl => ?_, hst', fun l l' o o' hne hl hl' hown b hb hb' => ?_⟩
  · by_cases h : kept l
    · obtain ⟨h1, h2⟩ := hk l o h hl
      obtain ⟨h3, h4⟩ := hH.ob l o h1
      exact ⟨Nat.lt_of_lt_of_le h3 hN, obH_kept hag hN hsz h3 h2 (hw l o h h1) h4⟩
    · exact hc l o h hl
  · by_cases h : kept l <;> by_cases h' : kept l'
    · obtain ⟨h1, h2⟩ := hk l o h hl
      obtain ⟨h1', h2'⟩ := hk l' o' h' hl'
      exact hH.ap l l' o o' hne h1 h1' hown b (fpk _ _ _ h2 hb) (fpk _ _ _ h2' hb')
    · obtain ⟨h1, h2⟩ := hk l o h hl
      have hlt := fp_lt (hH.ob l o h1).2 (fpk _ _ _ h2 hb)
      rcases hf l' o' h' hl' b hb' with h3 | ⟨m, om, h3, h4, h5, h6⟩
      · omega
      · exact hH.ap l m o om (fun e => h3 (e ▸ h)) h1 h4 (.inr h5) b (fpk _ _ _ h2 hb) h6
    · obtain ⟨h1, h2⟩ := hk l' o' h' hl'
      have hlt := fp_lt (hH.ob l' o' h1).2 (fpk _ _ _ h2 hb')
      rcases hf l o h hl b hb with h3 | ⟨m, om, h3, h4, h5, h6⟩
      · omega
      · exact hH.ap l' m o' om (fun e => h3 (e ▸ h')) h1 h4 (.inr h5) b (fpk _ _ _ h2 hb') h6
    · exact hcc l l' o o' hne h h' hl hl' hown b hb hb'
theorem beq_no {l k : Nat} (h : ¬ l = k) : Nat.beq l k = false := by
  cases hb : Nat.beq l k with
  | false => rfl
  | true => exact absurd (Nat.eq_of_beq_eq_true hb) h
theorem hget_cons (l s : Nat) (o : Ob) (H : Hp) (k : Nat) : hget ((l, s, o) :: H) k = if l = k then some o else hget H k := by
  show (match Nat.beq l k with | true => some o | false => hget H k) = _
  by_cases h : l = k
  · subst h; simp
  · have : Nat.beq l k = false := beq_no h
    simp [this, h]
theorem hget_hset (s : Nat) (o : Ob) (l : Nat) : ∀ (H : Hp) (k : Nat), hget (hset H l s o) k = if l = k then some o else hget H k
  | [], k => by rw [hset, hget_cons]
  | (m, t, o') :: H, k => by
    unfold hset
    by_cases h : m = l
    · subst h
      have : Nat.beq m m = true := by simp
      simp only [this, hget_cons]
      split <;> rfl
    · have hb : Nat.beq m l = false := beq_no h
      simp only [hb, hget_cons, hget_hset s o l H k]
      by_cases h1 : m = k <;> by_cases h2 : l = k
      · exact absurd (h1.trans h2.symm) h
      · simp [h1, h2]
      · simp [h1, h2]
      · simp [h1, h2]
theorem hst_cons (l s : Nat) (o : Ob) (H : Hp) (k : Nat) : hst ((l, s, o) :: H) k = if l = k then s else hst H k := by
  show (match Nat.beq l k with | true => s | false => hst H k) = _
  by_cases h : l = k
  · subst h; simp
  · have : Nat.beq l k = false := beq_no h
    simp [this, h]
theorem hst_hset (s : Nat) (o : Ob) (l : Nat) : ∀ (H : Hp) (k : Nat), hst (hset H l s o) k = if l = k then s else hst H k
  | [], k => by rw [hset, hst_cons]
  | (m, t, o') :: H, k => by
    unfold hset
    by_cases h : m = l
    · subst h
      have : Nat.beq m m = true := by simp
      simp only [this, hst_cons]
      split <;> rfl
    · have hb : Nat.beq m l = false := beq_no h
      simp only [hb, hst_cons, hst_hset s o l H k]
      by_cases h1 : m = k <;> by_cases h2 : l = k
      · exact absurd (h1.trans h2.symm) h
      · simp [h1, h2]
      · simp [h1, h2]
      · simp [h1, h2]
end
end Sx

set_option linter.all false
namespace Sx
open Go
/-! ### plain facts on rows -/
theorem mapO_scal : ∀ {cs : List A} {ls : List L}, mapO scal cs = some ls → cs = ls.map A.l
  | [], ls, h => by cases h; rfl
  | c :: cs, ls, h => by
    simp only [mapO] at h
    split at h
    · rename_i b bs h1 h2
      cases h
      cases c <;> simp [scal] at h1
      subst h1
      rw [List.map_cons, ← mapO_scal h2]
    · cases h
theorem un_leaf : ∀ {k : Kd} {l : L} {x : k.T}, k.un l = some x → k.leaf x = l
  | .i k, .i k' n, x, h => by
    simp only [Kd.un] at h
    split at h
    · rename_i hk
      cases h
      subst hk
      rfl
    · cases h
  | .b, .b _, _, h => by cases h; rfl
  | .s, .s _, _, h => by cases h; rfl
  | .i _, .b _, _, h => by simp [Kd.un] at h
  | .i _, .s _, _, h => by simp [Kd.un] at h
  | .b, .i _ _, _, h => by simp [Kd.un] at h
  | .b, .s _, _, h => by simp [Kd.un] at h
  | .s, .b _, _, h => by simp [Kd.un] at h
  | .s, .i _ _, _, h => by simp [Kd.un] at h
theorem leafs_un : ∀ {ks : List Kd} {ls : List L} {y : Tup ks}, unleafs ks ls = some y → leafs ks y = ls
  | [], [], _, _ => rfl
  | [k], [l], y, h => by
    have h : k.un l = some y := h
    show [k.leaf y] = [l]
    rw [un_leaf h]
  | k :: k' :: ks, l :: ls, y, h => by
    simp only [unleafs] at h
    split at h
    · rename_i a asq h1 h2
      cases h
      show k.leaf a :: leafs (k' :: ks) asq = _
      rw [un_leaf h1, leafs_un h2]
    · cases h
  | [], _ :: _, _, h => by simp [unleafs] at h
  | [_], [], _, h => by simp [unleafs] at h
  | [_], _ :: _ :: _, _, h => by simp [unleafs] at h
  | _ :: _ :: _, [], _, h => by simp [unleafs] at h
theorem setAtV_eq : ∀ (us cs : List Value) (o : Nat), o + us.length ≤ cs.length → setAtV cs o us = cs.take o ++ us ++ cs.drop (o + us.length)
  | [], cs, o, _ => by simp [setAtV]
  | u :: us, cs, o, h => by
    have h' : o < cs.length := by simp at h; omega
    rw [setAtV, setAtV_eq us (cs.set o u) (o + 1) (by simp at h ⊢; omega)]
    have e := list_seg_step cs o u us (by simp at h ⊢; omega)
    simpa [Nat.add_assoc, Nat.add_comm 1] using e
section
variable {ν : Nu} {N : Nat} {w : World}
theorem lits_rel : ∀ {ls : List L} {vs : List Value}, relAs ν N (ls.map A.l) vs → vs = ls.map L.val ∧ ∀ l ∈ ls, l.wf
  | [], [], _ => ⟨rfl, by simp⟩
  | l :: ls, v :: vs, h => by
    obtain ⟨⟨⟨h1, rfl⟩, _⟩, h2⟩ := h
    obtain ⟨h3, h4⟩ := lits_rel h2
    exact ⟨by rw [h3]; rfl, fun x hx => by rcases List.mem_cons.1 hx with rfl | hx <;> first | exact h1 | exact h4 x hx⟩
  | [], _ :: _, h => h.elim
  | _ :: _, [], h => h.elim
theorem group_rel {ks : List Kd} : ∀ {n : Nat} {cs : List A} {xs : List (Tup ks)} {vs : List Value}, group ks n cs = some xs → relAs ν N cs vs → vs = flat ks xs ∧ wfT ks xs ∧ xs.length = n
  | 0, [], xs, vs, h, hr => by
    cases h
    cases vs with
    | nil => exact ⟨rfl, by simp [wfT], rfl⟩
    | cons v vs => exact hr.elim
  | n + 1, cs, xs, vs, h, hr => by
    simp only [group] at h
    split at h
    · rename_i ls h1
      split at h
      · rename_i x xs' h2 h3
        cases h
        have e1 := mapO_scal h1
        have r1 := relAs_take hr ks.length
        rw [e1] at r1
        obtain ⟨e2, w2⟩ := lits_rel r1
        obtain ⟨e3, w3, l3⟩ := group_rel h3 (relAs_drop hr ks.length)
        have e4 := leafs_un h2
        refine ⟨?_, ?_, by simp [l3]⟩
        · rw [← List.take_append_drop ks.length vs, e2, e3, ← e4]
          rfl
        · intro y hy
          rcases List.mem_cons.1 hy with rfl | hy
          · rw [e4]; exact w2
          · exact w3 y hy
      · cases h
    · cases h
  | 0, _ :: _, _, _, h, _ => by simp [group] at h
end
/-! ### new labels -/
def Nu.setB (ν : Nu) (N b : Nat) : Nu := ⟨fun l => if l = N then b else ν.blk l, ν.sv, fun l => if l = N then (· = b) else ν.fp l⟩
def Nu.setS (ν : Nu) (N : Nat) (v : Value) (f : Nat → Prop) : Nu := ⟨ν.blk, fun l => if l = N then v else ν.sv l, fun l => if l = N then f else ν.fp l⟩
theorem agree_setB (ν : Nu) (N b : Nat) : agree N ν (ν.setB N b) := fun l hl => ⟨by simp [Nu.setB, Nat.ne_of_lt hl], rfl⟩
theorem agree_setS (ν : Nu) (N : Nat) (v : Value) (f : Nat → Prop) : agree N ν (ν.setS N v f) := fun l hl => ⟨rfl, by simp [Nu.setS, Nat.ne_of_lt hl]⟩
def goneH (H : Hp) (s : Nat) : Option Nat → Hp
  | some l => hset H l s .gone
  | none => H
def Goes (ν : Nu) (N : Nat) (H : Hp) (w : World) (K : R → Hp → Nat → Prop) (v : Value) (w' : World) : Prop :=
  ∃ ν' N' H' r, relR ν' N' r v ∧ hpH ν' N' w' H' ∧ Mv ν N H w ν' N' H' w' ∧ K r H' N'
section
variable {P : Program} {ν : Nu} {N : Nat} {w : World} {H : Hp}
theorem go_alloc (F : Nat → Prop) (w : World) (o : Obj) : Go1 F w (w.alloc o) := ⟨rfl, rfl, rfl, by simp, fun k hk _ => heap_alloc_old w o hk⟩
theorem st_cons (hH : hpH ν N w H) {o0 : Ob} : ∀ l o, hget ((N, N, o0) :: H) l = some o → hst ((N, N, o0) :: H) l < N + 1 := by
  intro l o hg
  rw [hget_cons] at hg
  rw [hst_cons]
  split at hg
  · rename_i h; rw [if_pos h]; exact Nat.lt_succ_self N
  · rename_i h; rw [if_neg h]; exact Nat.lt_succ_of_lt (hH.st l o hg)
theorem mono_cons {o0 : Ob} (l : Nat) : hst ((N, N, o0) :: H) l = hst H l ∨ N ≤ hst ((N, N, o0) :: H) l := by
  rw [hst_cons]
  split
  · exact .inr (Nat.le_refl _)
  · exact .inl rfl
theorem newCellsR (hH : hpH ν N w H) {cs : List A} {vs : Array Value} (T : TypeId) (hr : relAs ν N cs vs.toList) {K : R → Hp → Nat → Prop} {r : R} {v : Value} (hv : relR (ν.setB N w.heap.size) (N + 1) r v) (h : K r ((N, N, .cells cs) :: H) (N + 1)) :
    Goes ν N H w K v (w.alloc (.cells vs T)) := by
  refine ⟨ν.setB N w.heap.size, N + 1, _, r, hv, ?_, ⟨go_alloc _ _ _, ?_, agree_setB _ _ _, Nat.le_succ N, ?_, ?_⟩, h⟩
  · refine hpH_upd hH (fun l => l ≠ N) (st_cons hH) (Nat.le_succ N) (agree_setB _ _ _) (by simp) ?_ ?_ ?_ ?_ ?_
    · intro l o hl hg
      rw [hget_cons, if_neg (Ne.symm hl)] at hg
      exact ⟨hg, by simp [Nu.setB, hl]⟩
    · intro l o _ hg b hb
      exact heap_alloc_old w _ (fp_lt (hH.ob l o hg).2 hb)
    · intro l o hl hg
      have hl : l = N := Classical.not_not.1 hl
      subst hl
      rw [hget_cons, if_pos rfl] at hg
      cases hg
      refine ⟨Nat.lt_succ_self _, fun b => by simp [Nu.setB], vs, T, ?_, relAs_mono (agree_setB _ _ _) (Nat.le_succ _) hr⟩
      simp only [Nu.setB, if_pos]
      exact heap_alloc_new w _
    · intro l o hl hg b hb
      have hl : l = N := Classical.not_not.1 hl
      subst hl
      rw [hget_cons, if_pos rfl] at hg
      cases hg
      simp only [fpO, Nu.setB, if_pos] at hb
      exact .inl (by omega)
    · intro l l' o o' hne hl hl'
      exact absurd ((Classical.not_not.1 hl).trans (Classical.not_not.1 hl').symm) hne
  · rintro b ⟨l, o, hg, ho, hb⟩
    rw [hget_cons] at hg
    split at hg
    · rename_i hl
      subst hl
      simp only [Nu.setB, if_pos] at hb
      exact .inr (by omega)
    · rename_i hl
      simp only [Nu.setB, if_neg (Ne.symm hl)] at hb
      exact .inl ⟨l, o, hg, ho, hb⟩
  · intro l o hg _
    have hl : l ≠ N := Nat.ne_of_lt (hH.ob l o hg).1
    exact ⟨by rw [hget_cons, if_neg (Ne.symm hl)]; exact hg, by simp [Nu.setB, hl], fun b hb => heap_alloc_old w _ (fp_lt (hH.ob l o hg).2 hb)⟩
  · exact mono_cons
theorem newCells (hH : hpH ν N w H) {cs : List A} {vs : Array Value} (T : TypeId) (hr : relAs ν N cs vs.toList) {K : R → Hp → Nat → Prop} (h : K (.a (.p N 0)) ((N, N, .cells cs) :: H) (N + 1)) :
    Goes ν N H w K (.pointer (some ⟨w.heap.size, 0, none⟩)) (w.alloc (.cells vs T)) :=
  newCellsR hH T hr (r := .a (.p N 0)) (show relA (ν.setB N w.heap.size) (N + 1) (.p N 0) (.pointer (some ⟨w.heap.size, 0, none⟩)) from ⟨Nat.lt_succ_self N, by simp [Nu.setB]⟩) h
theorem newOwn (hH : hpH ν N w H) {o' : Ob} {n : Nat} {v : Value} {w' : World} (c : Option Nat) (hc : ∀ l, c = some l → ∃ o, hget H l = some o ∧ ownOb o = true ∧ ∀ b, v.ownBlock = some b → w.heap.size ≤ b ∨ fpO ν l o b)
    (hc0 : c = none → ∀ b, v.ownBlock = some b → w.heap.size ≤ b) (hgo : Go1 (own ν H) w w') (hgo' : ∀ l o, c ≠ some l → hget H l = some o → ∀ b, fpO ν l o b → w'.heap[b]? = w.heap[b]?) (hob : obH (ν.setS N v (fun b => v.ownBlock = some b)) (N + 1) w' N o') (hok : ∃ base cap, v = .slice base n cap ∧ okSl base n cap) {K : R → Hp → Nat → Prop}
    (h : K (.a (.f N n)) ((N, N, o') :: goneH H N c) (N + 1)) : Goes ν N H w K v w' := by
  have fpN : ∀ (ν0 : Nu) m om b, fpO ν0 m om b → ν0.fp m b := fun ν0 m om b h => by cases om <;> first | exact h | exact h.elim
  have hcN : ∀ l, c = some l → l < N := fun l hl => let ⟨o, h1, _⟩ := hc l hl; (hH.ob l o h1).1
  have hget' : ∀ l o, l ≠ N → hget ((N, N, o') :: goneH H N c) l = some o → (c ≠ some l ∧ hget H l = some o) ∨ (c = some l ∧ o = .gone) := by
    intro l o hl hg
    rw [hget_cons, if_neg (Ne.symm hl)] at hg
    cases c with
    | none => exact .inl ⟨nofun, hg⟩
    | some m =>
      simp only [goneH, hget_hset] at hg
      split at hg
      · rename_i hm
        cases hg
        exact .inr ⟨by rw [hm], rfl⟩
      · rename_i hm
        exact .inl ⟨fun e => hm (by cases e; rfl), hg⟩
  have hstg : ∀ l, (c = some l → hst (goneH H N c) l = N) ∧ (c ≠ some l → hst (goneH H N c) l = hst H l) := by
    intro l
    cases c with
    | none => exact ⟨nofun, fun _ => rfl⟩
    | some m =>
      simp only [goneH, hst_hset]
      exact ⟨fun e => by cases e; simp, fun e => if_neg fun h => e (by rw [h])⟩
  have hst1 : ∀ l o, hget ((N, N, o') :: goneH H N c) l = some o → hst ((N, N, o') :: goneH H N c) l < N + 1 := by
    intro l o hg
    rw [hst_cons]
    split
    · exact Nat.lt_succ_self N
    · rename_i hl
      rcases hget' l o (Ne.symm hl) hg with h | h
      · rw [(hstg l).2 h.1]; exact Nat.lt_succ_of_lt (hH.st l o h.2)
      · rw [(hstg l).1 h.1]; exact Nat.lt_succ_self N
  obtain ⟨base, cap, hv, hokS⟩ := hok
  refine ⟨ν.setS N v (fun b => v.ownBlock = some b), N + 1, _, .a (.f N n), (show relA _ _ (.f N n) _ from ⟨Nat.lt_succ_self N, by simp [Nu.setS], base, cap, by simp [Nu.setS, hv], hokS⟩), ?_, ⟨hgo, ?_, agree_setS _ _ _ _, Nat.le_succ N, ?_, ?_⟩, h⟩
  · refine hpH_upd hH (fun l => l ≠ N ∧ c ≠ some l) hst1 (Nat.le_succ N) (agree_setS _ _ _ _) hgo.size ?_ ?_ ?_ ?_ ?_
    · intro l o hl hg
      rcases hget' l o hl.1 hg with h | h
      · exact ⟨h.2, by simp [Nu.setS, hl.1]⟩
      · exact absurd h.1 hl.2
    · intro l o hl hg b hb
      exact hgo' l o hl.2 hg b hb
    · intro l o hl hg
      by_cases hlN : l = N
      · subst hlN
        rw [hget_cons, if_pos rfl] at hg
        cases hg
        exact ⟨Nat.lt_succ_self _, hob⟩
      · rcases hget' l o hlN hg with h | h
        · exact absurd ⟨hlN, h.1⟩ hl
        · rw [h.2]
          exact ⟨Nat.lt_succ_of_lt (hcN l h.1), trivial⟩
    · intro l o hl hg b hb
      by_cases hlN : l = N
      · subst hlN
        rw [hget_cons, if_pos rfl] at hg
        cases hg
        have hb := fpN _ _ _ _ hb
        simp only [Nu.setS, if_pos] at hb
        cases c with
        | none => exact .inl (hc0 rfl b hb)
        | some m =>
          obtain ⟨om, h1, h2, h3⟩ := hc m rfl
          rcases h3 b hb with h4 | h4
          · exact .inl h4
          · exact .inr ⟨m, om, fun h => h.2 rfl, h1, h2, h4⟩
      · rcases hget' l o hlN hg with h | h
        · exact absurd ⟨hlN, h.1⟩ hl
        · rw [h.2] at hb
          exact hb.elim
    · intro l l' o o2 hne hl hl' hg hg' _ b hb hb'
      by_cases hlN : l = N
      · have : l' ≠ N := fun e => hne (hlN.trans e.symm)
        rcases hget' l' o2 this hg' with h | h
        · exact absurd ⟨this, h.1⟩ hl'
        · rw [h.2] at hb'
          exact hb'.elim
      · rcases hget' l o hlN hg with h | h
        · exact absurd ⟨hlN, h.1⟩ hl
        · rw [h.2] at hb
          exact hb.elim
  · rintro b ⟨l, o, hg, ho', hb⟩
    by_cases hlN : l = N
    · subst hlN
      simp only [Nu.setS, if_pos] at hb
      cases c with
      | none => exact .inr (hc0 rfl b hb)
      | some m =>
        obtain ⟨om, h1, h2, h3⟩ := hc m rfl
        rcases h3 b hb with h4 | h4
        · exact .inr h4
        · exact .inl ⟨m, om, h1, h2, by cases om <;> first | exact h4 | cases h2⟩
    · rcases hget' l o hlN hg with h | h
      · simp only [Nu.setS, if_neg hlN] at hb
        exact .inl ⟨l, o, h.2, ho', hb⟩
      · rw [h.2] at ho'
        cases ho'
  · intro l o hg he
    have hl : l ≠ N := Nat.ne_of_lt (hH.ob l o hg).1
    have hlt := hH.st l o hg
    rw [hst_cons, if_neg (Ne.symm hl)] at he
    have hcl : c ≠ some l := fun e => by rw [(hstg l).1 e] at he; omega
    refine ⟨?_, by simp [Nu.setS, hl], fun b hb => hgo' l o hcl hg b hb⟩
    rw [hget_cons, if_neg (Ne.symm hl)]
    cases c with
    | none => exact hg
    | some m => rw [goneH, hget_hset, if_neg (fun e => hcl (by rw [e]))]; exact hg
  · intro l
    rw [hst_cons]
    split
    · exact .inr (Nat.le_refl _)
    · by_cases hcl : c = some l
      · exact .inr (by rw [(hstg l).1 hcl]; exact Nat.le_refl _)
      · exact .inl ((hstg l).2 hcl)
theorem newRow (hH : hpH ν N w H) {ks : List Kd} {xs : List (Tup ks)} {e : TypeId} {v : Value} {w' : World} (c : Option Nat) (hc : ∀ l, c = some l → ∃ o, hget H l = some o ∧ ownOb o = true ∧ ∀ b, v.ownBlock = some b → w.heap.size ≤ b ∨ fpO ν l o b)
    (hc0 : c = none → ∀ b, v.ownBlock = some b → w.heap.size ≤ b) (hgo : Go1 (own ν H) w w') (hgo' : ∀ l o, c ≠ some l → hget H l = some o → ∀ b, fpO ν l o b → w'.heap[b]? = w.heap[b]?) (hk : 0 < ks.length) (hw : wfT ks xs)
    (ho : w'.ownsRow 0 e ks.length v xs.length (flat ks xs)) (hok : ∃ base cap, v = .slice base xs.length cap ∧ okSl base xs.length cap) {K : R → Hp → Nat → Prop} {n : Nat} (hn : n = xs.length)
    (h : K (.a (.f N n)) ((N, N, .row true ks xs) :: goneH H N c) (N + 1)) : Goes ν N H w K v w' := by
  subst hn
  have hobj : obH (ν.setS N v fun b => v.ownBlock = some b) (N + 1) w' N (Ob.row true ks xs) := ⟨hk, hw, fun b => by simp [Nu.setS], e, by simpa [Nu.setS] using ho⟩
  exact newOwn hH c hc hc0 hgo hgo' hobj hok h
theorem setOwn (hH : hpH ν N w H) {l : Nat} {o o' : Ob} {w' : World} (hg : hget H l = some o) (ho : ownOb o = true) (ho' : ∀ b, fpO ν l o' b → fpO ν l o b) (hgo : Go1 (fun b => fpO ν l o b) w w')
    (hob : obH ν (N + 1) w' l o') {r : R} {v : Value} (hr : relR ν (N + 1) r v) {K : R → Hp → Nat → Prop} (h : K r (hset H l N o') (N + 1)) : Goes ν N H w K v w' := by
  have hown : ∀ b, fpO ν l o b → own ν H b := fun b hb => ⟨l, o, hg, ho, by cases o <;> first | exact hb | cases ho⟩
  have hge : ∀ m om, m ≠ l → hget (hset H l N o') m = some om → hget H m = some om := fun m om hm h => by rwa [hget_hset, if_neg (Ne.symm hm)] at h
  have hgl : ∀ om, hget (hset H l N o') l = some om → om = o' := fun om h => by rw [hget_hset, if_pos rfl] at h; exact (Option.some.inj h).symm
  refine ⟨ν, N + 1, _, r, hr, ?_, ⟨hgo.mono hown, ?_, fun _ _ => ⟨rfl, rfl⟩, Nat.le_succ N, ?_, ?_⟩, h⟩
  · refine hpH_upd hH (fun m => m ≠ l) (fun m om hm => by
      rw [hst_hset]
      split
      · exact Nat.lt_succ_self N
      · rename_i hne
        exact Nat.lt_succ_of_lt (hH.st m om (hge m om (Ne.symm hne) hm))) (Nat.le_succ N) (fun _ _ => ⟨rfl, rfl⟩) hgo.size ?_ ?_ ?_ ?_ ?_
    · exact fun m om hm h => ⟨hge m om hm h, rfl⟩
    · intro m om hm hg' b hb
      exact hgo.block b (fp_lt (hH.ob m om hg').2 hb) fun hb' => hH.ap m l om o hm hg' hg (.inr ho) b hb hb'
    · intro m om hm hg'
      have hm : m = l := Classical.not_not.1 hm
      subst hm
      rw [hgl om hg']
      exact ⟨Nat.lt_succ_of_lt (hH.ob _ _ hg).1, hob⟩
    · intro m om hm hg' b hb
      have hm : m = l := Classical.not_not.1 hm
      subst hm
      rw [hgl om hg'] at hb
      exact .inr ⟨m, o, fun h => h rfl, hg, ho, ho' b hb⟩
    · intro m m' om om' hne hm hm'
      exact absurd ((Classical.not_not.1 hm).trans (Classical.not_not.1 hm').symm) hne
  · rintro b ⟨m, om, hg', ho1, hb⟩
    by_cases hm : m = l
    · subst hm
      rw [hgl om hg'] at ho1
      exact .inl (hown b (ho' b (by cases o' <;> first | exact hb | cases ho1)))
    · exact .inl ⟨m, om, hge m om hm hg', ho1, hb⟩
  · intro m om hg' he
    have hlt := hH.st m om hg'
    rw [hst_hset] at he
    have hm : m ≠ l := fun e => by rw [if_pos e.symm] at he; omega
    exact ⟨by rw [hget_hset, if_neg (Ne.symm hm)]; exact hg', rfl, fun b hb => hgo.block b (fp_lt (hH.ob m om hg').2 hb) fun hb' => hH.ap m l om o hm hg' hg (.inr ho) b hb hb'⟩
  · intro m
    rw [hst_hset]
    split
    · exact .inr (Nat.le_refl _)
    · exact .inl rfl
end
end Sx

set_option linter.all false
namespace Sx
open Go
theorem setAtV_append_left : ∀ (us a b : List Value) (o : Nat), o + us.length ≤ a.length → setAtV (a ++ b) o us = setAtV a o us ++ b
  | [], _, _, _, _ => rfl
  | u :: us, a, b, o, h => by
    have ho : o < a.length := by simp at h; omega
    rw [setAtV, setAtV, List.set_append_left o u ho, setAtV_append_left us (a.set o u) b (o + 1) (by simp at h ⊢; omega)]
theorem setAtV_append_right : ∀ (us a b : List Value) (o : Nat), setAtV (a ++ b) (a.length + o) us = a ++ setAtV b o us
  | [], _, _, _ => rfl
  | u :: us, a, b, o => by
    rw [setAtV, setAtV, List.set_append_right _ _ (by omega), Nat.add_sub_cancel_left, Nat.add_assoc, setAtV_append_right us a (b.set o u) (o + 1)]
theorem flat_cons (ks : List Kd) (x : Tup ks) (xs : List (Tup ks)) : flat ks (x :: xs) = (leafs ks x).map L.val ++ flat ks xs := rfl
theorem flat_set {ks : List Kd} {us : List Value} {o : Nat} {y : Tup ks} : ∀ {xs : List (Tup ks)} {i : Nat}, i < xs.length → o + us.length ≤ ks.length → (leafs ks y).map L.val = setAtV ((leafs ks (xs.getD i (zT ks))).map L.val) o us →
    flat ks (xs.set i y) = setAtV (flat ks xs) (i * ks.length + o) us
  | x :: xs, 0, _, ho, h => by
    rw [List.set_cons_zero, flat_cons, flat_cons, h, Nat.zero_mul, Nat.zero_add, setAtV_append_left _ _ _ _ (by simpa [leafs_length] using ho)]
    rfl
  | x :: xs, i + 1, hi, ho, h => by
    have ih := flat_set (xs := xs) (i := i) (by simpa using hi) ho (by simpa using h)
    have e : (i + 1) * ks.length + o = ((leafs ks x).map L.val).length + (i * ks.length + o) := by rw [List.length_map, leafs_length, Nat.succ_mul]; omega
    rw [List.set_cons_succ, flat_cons, flat_cons, ih, e, setAtV_append_right]
section
variable {P : Program} {ν : Nu} {N : Nat} {w : World} {H : Hp} {K : R → Hp → Nat → Prop}
theorem relR_unit : relR ν N .unit undef := ⟨#[], rfl, trivial⟩
theorem alloc_sound (hH : hpH ν N w H) {t : TypeId} {z : List A} (hz : zatoms P t = some z) (h : K (.a (.p N 0)) ((N, N, .cells z) :: H) (N + 1)) :
    ∃ v w', (Instr.alloc t true (.tuple #[])).run P w = .ok v w' ∧ Goes ν N H w K v w' := by
  obtain ⟨i, v, h1, h2, h3⟩ := zatoms_some (ν := ν) (N := N) hz
  refine ⟨_, _, ?_, newCells hH t h3 h⟩
  simp [Instr.alloc, zeroValue, typeInfo, h1, h2, newVar, Go.newRow, newObj]
  rfl
theorem box_sound (hH : hpH ν N w H) {t : TypeId} {x : V} {u : Value} {vs : List A} (hx : relV ν N x u) (ha : asCells x = some vs) (h : K (.a (.p N 0)) ((N, N, .cells vs) :: H) (N + 1)) :
    ∃ v w', (Instr.box t u).run P w = .ok v w' ∧ Goes ν N H w K v w' := by
  refine ⟨_, _, ?_, newCells hH t (asCells_rel hx ha) h⟩
  simp [Instr.box, newVar, Go.newRow, newObj]
  rfl
theorem relAs_one : ∀ {asq : List A} {vs : List Value}, relAs ν N asq vs → ∀ v ∈ vs, v.oneCell' = true
  | _ :: _, _ :: _, h, v, hv => by
    rcases List.mem_cons.1 hv with rfl | hv
    · exact h.1.2
    · exact relAs_one h.2 v hv
  | [], _ :: _, h, _, _ => h.elim
theorem storeVar_run {t : TypeId} {b o : Nat} {cur : Array Value} {T : TypeId} {z : Value} {us : List Value} (hb : w.heap[b]? = some (.cells cur T (0, 0))) (hz : z.cells.toList = us) (ht : P.cellsOf t = us.length) (h1 : 1 ≤ us.length)
    (hfit : o + us.length ≤ cur.size) (hone : ∀ v ∈ us, v.oneCell' = true) :
    (Instr.storeAt t (.pointer (some ⟨b, o, none⟩)) z).run P w = .ok () (w.setRow b (setAtV cur.toList o us).toArray) := by
  have hs : (Go.sizeOf t).run P w = .ok (P.cellsOf t) w := run_size1 (Nat.ble_eq_true_of_le (by omega))
  have hl : z.cells.size = us.length := by rw [← hz]; simp
  have := run_storeCells_at P b o T us 0 cur w hb (by simpa using hfit) hone
  rw [setAtV_eq us cur.toList o (by simpa using hfit)]
  simp only [Nat.add_zero] at this
  simp only [Instr.storeAt, Instr.sureAddr, storeVar, Sem.run_bind, Sem.run_pure, Result.andThen_ok, hs, hl, ht, ne_eq, not_true_eq_false, if_false, hz, this]
theorem go_setRow {F : Nat → Prop} {b : Nat} {cs : Array Value} (hb : F b) : Go1 F w (w.setRow b cs) := ⟨rfl, rfl, rfl, by simp [World.setRow], fun k _ hk => setRow_other w b k cs fun e => hk (e ▸ hb)⟩
theorem store_sound (hH : hpH ν N w H) {t : TypeId} {x v : R} {u z : Value} (hx : relR ν N x u) (hv : relR ν N v z) (h : store P H N t x v fun H => K .unit H (N + 1)) :
    ∃ w', (Instr.storeAt t u z).run P w = .ok () w' ∧ Goes ν N H w K undef w' := by
  unfold store at h
  split at h
  · rename_i v
    split at h
    · exact h.elim
    · rename_i vs ha
      split at h
      · exact h.elim
      · rename_i hsz
        simp only [Bool.and_eq_true] at hsz
        have hsz1 := Nat.eq_of_beq_eq_true hsz.1
        have hsz2 := Nat.le_of_ble_eq_true hsz.2
        have hr := asCells_rel hv ha
        have hl := relAs_length hr
        split at h
        · rename_i l o
          obtain ⟨hl', rfl⟩ := hx
          split at h
          · rename_i cs hg
            split at h
            · rename_i hin
              have hin := Nat.le_of_ble_eq_true hin
              obtain ⟨h1, vals, T, h2, h3⟩ := (hH.ob _ _ hg).2
              have hl3 := relAs_length h3
              simp only [Array.length_toList] at hl3
              refine ⟨_, storeVar_run h2 rfl (by omega) (by omega) (by omega) (relAs_one hr), setOwn (o' := .cells (setAt cs o vs)) hH hg rfl (fun b hb => hb) (go_setRow ((h1 _).2 rfl)) ?_ relR_unit h⟩
              refine ⟨h1, _, T, setRow_heap w _ vals _ T _ h2, ?_⟩
              exact relAs_mono (fun _ _ => ⟨rfl, rfl⟩) (Nat.le_succ N) (by simpa using relAs_setAt o h3 hr)
            · exact h.elim
          · exact h.elim
        · rename_i l zz i o
          obtain ⟨hl', b, off, n, cap, hsv, hi, rfl⟩ := hx
          split at h
          · rename_i ks xs hg
            split at h
            · rename_i ls hzz hin hsc
              split at h
              · rename_i y hun
                have hzz := Nat.eq_of_beq_eq_true hzz
                subst hzz
                have hin := Nat.le_of_ble_eq_true hin
                obtain ⟨hk, hw, hfp, e, hown⟩ := (hH.ob _ _ hg).2
                rcases hown.2 with ⟨h4, h5⟩ | ⟨g, cap', cur, h4, h5, h6, h7, h8, h9, h10⟩
                · rw [h4] at hsv; cases hsv
                rw [hsv] at h4
                obtain ⟨h11, rfl, rfl⟩ := slice_inj h4
                cases h11
                have hc := relAs_cellsAt (ν := ν) (N := N) hw hi
                have hset := relAs_setAt o hc hr
                rw [mapO_scal hsc] at hset
                obtain ⟨hvals, hwf⟩ := lits_rel hset
                have hly := leafs_un hun
                have hflat : flat ks (xs.set i y) = setAtV (flat ks xs) (i * ks.length + o) z.cells.toList := flat_set hi (by omega) (by rw [hly, hvals])
                have hb1 : i * ks.length + ks.length ≤ xs.length * ks.length := by rw [← Nat.succ_mul]; exact Nat.mul_le_mul_right _ hi
                have hb2 : xs.length * ks.length ≤ cur.size := by rw [h9]; exact Nat.mul_le_mul_right _ h7
                have hlz : z.cells.toList.length = vs.length := hl.symm
                simp only [Nat.zero_add]
                refine ⟨_, storeVar_run h6 rfl (by omega) (by omega) (by omega) (relAs_one hr), setOwn (o' := .row true ks (xs.set i y)) hH hg rfl (fun b hb => hb) (go_setRow ((hfp b).2 (by rw [hsv]; rfl))) ?_ relR_unit h⟩
                refine ⟨hk, ?_, hfp, e, ?_⟩
                · intro x hx
                  rcases List.mem_or_eq_of_mem_set hx with hx | rfl
                  · exact hw x hx
                  · rw [hly]; exact hwf
                · refine ⟨by rw [flat_length],   .inr ⟨b, cap, _, ?_, h5, setRow_heap w b cur _ e _ h6, by rw [List.length_set]; exact h7, h8, ?_, ?_⟩⟩
                  · rw [hsv, List.length_set]
                  · simp [setAtV_length, h9]
                  · rw [List.length_set, hflat, ← h10]
                    have e1 := List.take_append_drop (xs.length * ks.length) cur.toList
                    have e2 : (cur.toList.take (xs.length * ks.length)).length = xs.length * ks.length := by have e3 : cur.toList.length = cur.size := Array.length_toList; rw [List.length_take]; omega
                    conv => lhs; rw [← e1]
                    simp only []
                    rw [setAtV_append_left _ _ _ _ (by rw [e2]; omega), List.take_left' (by rw [setAtV_length, e2])]
              · exact h.elim
            · exact h.elim
          · rename_i z' n' cs hg
            split at h
            · rename_i hin
              simp only [Bool.and_eq_true] at hin
              have hzz := Nat.eq_of_beq_eq_true hin.1
              subst hzz
              have hin := Nat.le_of_ble_eq_true hin.2
              obtain ⟨h0, hfp, e, vals, hown, hrv⟩ := (hH.ob _ _ hg).2
              have hown1 := hown.1
              rcases hown.2 with ⟨h4, h5⟩ | ⟨g, cap', cur, h4, h5, h6, h7, h8, h9, h10⟩
              · rw [h4] at hsv; cases hsv
              rw [hsv] at h4
              obtain ⟨h11, rfl, rfl⟩ := slice_inj h4
              cases h11
              have hb1 : i * zz + zz ≤ n * zz := by rw [← Nat.succ_mul]; exact Nat.mul_le_mul_right _ hi
              have hb2 : n * zz ≤ cur.size := by rw [h9]; exact Nat.mul_le_mul_right _ h7
              have hlz : z.cells.toList.length = vs.length := hl.symm
              simp only [Nat.zero_add]
              refine ⟨_, storeVar_run h6 rfl (by omega) (by omega) (by omega) (relAs_one hr), setOwn (o' := .crow zz n (setAt cs (i * zz + o) vs)) hH hg rfl (fun b hb => hb) (go_setRow ((hfp b).2 (by rw [hsv]; rfl))) ?_ relR_unit h⟩
              refine ⟨h0, hfp, e, setAtV vals (i * zz + o) z.cells.toList, ⟨by rw [setAtV_length]; exact hown1, .inr ⟨b, cap, _, hsv, h5, setRow_heap w b cur _ e _ h6, h7, h8, ?_, ?_⟩⟩, relAs_mono (fun _ _ => ⟨rfl, rfl⟩) (Nat.le_succ N) (relAs_setAt _ hrv hr)⟩
              · simp [setAtV_length, h9]
              · rw [← h10]
                have e1 := List.take_append_drop (n * zz) cur.toList
                have e2 : (cur.toList.take (n * zz)).length = n * zz := by have e3 : cur.toList.length = cur.size := Array.length_toList; rw [List.length_take]; omega
                conv => lhs; rw [← e1]
                simp only []
                rw [setAtV_append_left _ _ _ _ (by rw [e2]; omega), List.take_left' (by rw [setAtV_length, e2])]
            · exact h.elim
          · exact h.elim
        · exact h.elim
  · exact h.elim
theorem elemT_slice {t e : TypeId} (h : elemT P t = some e) : P.underlying t = some (.slice e) := elemT_some h
theorem zkind_val : ∀ {v : Value} {k : Kd}, zkind v = some k → v = (k.leaf k.zero).val := by
  intro v k h
  unfold zkind at h
  split at h
  · cases h; rfl
  · cases h; rfl
  · rename_i s
    split at h
    · rename_i hs
      cases h
      have : s = ByteArray.empty := by
        cases s with
        | mk d => simp [ByteArray.size] at hs; subst hs; rfl
      subst this
      rfl
    · cases h
  · cases h
theorem kinds_zero : ∀ {cs : List Value} {ks : List Kd}, mapO zkind cs = some ks → cs = (leafs ks (zT ks)).map L.val
  | [], ks, h => by cases h; rfl
  | c :: cs, ks, h => by
    simp only [mapO] at h
    split at h
    · rename_i k ks' h1 h2
      cases h
      have ih := kinds_zero h2
      cases ks' with
      | nil =>
        simp only [leafs, List.map_nil] at ih
        subst ih
        rw [zkind_val h1]
        rfl
      | cons k' ks =>
        rw [zkind_val h1, ih]
        rfl
    · cases h
theorem rowT_some {e : TypeId} {ks : List Kd} (h : rowT P e = some ks) : ∃ i z, P.info? e = some i ∧ i.zero = some z ∧ i.size = ks.length ∧ 0 < ks.length ∧ z.cells.toList = (leafs ks (zT ks)).map L.val ∧ z.cells.size = ks.length ∧ P.cellsOf e = ks.length := by
  unfold rowT at h
  split at h
  · rename_i ks' hk
    split at h
    · rename_i hc
      cases h
      simp only [Bool.and_eq_true] at hc
      have h1 := Nat.eq_of_beq_eq_true hc.1
      have h2 := Nat.le_of_ble_eq_true hc.2
      unfold kindsT at hk
      split at hk
      · rename_i cs hcs
        obtain ⟨i, z, h3, h4, rfl⟩ := zcells_some hcs
        have h5 := kinds_zero hk
        have h6 : z.cells.size = ks.length := by have := congrArg List.length h5; simpa [leafs_length] using this
        refine ⟨i, z, h3, h4, ?_, by omega, h5, h6, h1.symm⟩
        have : P.cellsOf e = i.size := by simp [Program.cellsOf, h3]
        omega
      · cases hk
    · cases h
  · cases h
theorem wf_zero (ks : List Kd) : ∀ l ∈ leafs ks (zT ks), l.wf := by
  have h1 : ∀ k : Kd, (k.leaf k.zero).wf := fun k => by
    cases k with
    | i k => exact ⟨lo_le k, hi_ge k⟩
    | b => trivial
    | s => simp [L.wf, Kd.leaf, Kd.zero, okS]
  induction ks with
  | nil => simp [leafs]
  | cons k ks ih =>
    cases ks with
    | nil => intro l hl; simp only [leafs, List.mem_singleton] at hl; subst hl; exact h1 k
    | cons k' ks =>
      intro l hl
      rcases List.mem_cons.1 hl with rfl | hl
      · exact h1 k
      · exact ih l hl
theorem castRow_some {ks ks' : List Kd} {xs : List (Tup ks')} {ys : List (Tup ks)} (h : castRow ks ks' xs = some ys) : ∃ e : ks' = ks, e ▸ xs = ys := by
  unfold castRow at h
  split at h
  · rename_i e
    exact ⟨e, Option.some.inj h⟩
  · cases h
theorem source_sound (hH : hpH ν N w H) {ks : List Kd} {x : R} {u : Value} {ys : List (Tup ks)} (hx : relR ν N x u) (h : source ks H x = some ys) :
    (u = .slice none 0 0 ∧ ys = []) ∨ (wfT ks ys ∧ ∃ base cap, u = .slice base ys.length cap ∧ okSl base ys.length cap ∧ ∀ j v, (flat ks ys)[j]? = some v → ∃ a, base = some a ∧ w.cell? (a.add j) = some v) := by
  unfold source at h
  split at h
  · cases h; cases hx; exact .inl ⟨rfl, rfl⟩
  · cases h
    obtain ⟨base, rfl, hsp⟩ := hx
    exact .inr ⟨by simp [wfT], base, 0, rfl, ⟨⟨Nat.le_refl _, Nat.zero_le _⟩, hsp, fun _ => rfl⟩, fun j v hv => by simp [flat] at hv⟩
  · split at h
    · rename_i own ks' xs hc
      obtain ⟨e, h2⟩ := castRow_some h
      subst e
      subst h2
      obtain ⟨_, h3, h4⟩ := content_sound hH hx hc
      exact .inr ⟨h3, h4⟩
    · cases h
  · cases h
theorem vals_one {ks : List Kd} (ys : List (Tup ks)) : ∀ v ∈ flat ks ys, v.oneCell' = true := by
  intro v hv
  simp only [flat, List.mem_flatMap, List.mem_map] at hv
  obtain ⟨x, _, l, _, rfl⟩ := hv
  cases l <;> rfl
end
end Sx

set_option linter.all false
namespace Sx
open Go
section
variable {P : Program} {ν : Nu} {N : Nat} {w : World} {H : Hp} {K : R → Hp → Nat → Prop}
theorem fresh_row {e : TypeId} {size n cap : Nat} {cs : List Value} {xs : List Value} (hx : xs.length = n * size) (hcs : cs.take (n * size) = xs) (hl : cs.length = cap * size) (hn : n ≤ cap) (hc : cap ≤ maxLen) (w0 : World) (h0 : w0.heap.size = w.heap.size) :
    (w0.alloc (.cells cs.toArray e)).ownsRow 0 e size (.slice (some ⟨w.heap.size, 0, none⟩) n cap) n xs :=
  ⟨hx, .inr ⟨w.heap.size, cap, _, rfl, Nat.zero_le _, by rw [← h0]; exact heap_alloc_new w0 _, hn, hc, by simpa using hl, by simpa using hcs⟩⟩
theorem grown_drew_alloc (o : Obj) (r : Option Nat) : w.grownBy (w.drew.alloc o) r := ⟨rfl, rfl, rfl, by simp, fun k hk _ => heap_alloc_old w.drew o hk⟩
theorem run_append_any {t ty e e0 : TypeId} {i : TypeInfo} {z : Value} (ht : P.underlying t = some (.slice e)) (hi : P.info? e = some i) (hz : i.zero = some z) (hzs : z.cells.size = i.size) {v : Value} {n : Nat} {xs : List Value} (hown : w.ownsRow 0 e0 i.size v n xs)
    {a : Addr} {m c : Nat} {news : List Value} (hl : news.length = m * i.size) (hnews : ∀ j u, news[j]? = some u → w.cell? (a.add j) = some u) (h1 : ∀ u ∈ news, u.oneCell' = true) (h63 : n + m ≤ 140737488355328) (hbytes : (n + m) * i.bytes ≤ 140737488355328) (hm : 0 < m) :
    ∃ v' w' e', (Builtin.append_ #[t, t] ty #[v, .slice (some a) m c]).run P w = .ok v' w' ∧ w'.ownsRow 0 e' i.size v' (n + m) (xs ++ news) ∧ w.grownBy w' v.ownBlock ∧ (∃ g cap, v' = .slice (some ⟨g, 0, none⟩) (n + m) cap ∧ n + m ≤ cap ∧ cap ≤ maxLen ∧ (v.ownBlock = some g ∨ w.heap.size ≤ g)) := by
  have hmx : (140737488355328 : Nat) ≤ maxLen := by decide
  have hlen : (xs ++ news).length = (n + m) * i.size := by rw [List.length_append, hown.1, hl, Nat.add_mul]
  rcases hown.2 with ⟨rfl, rfl⟩ | ⟨g, cap, cur, rfl, hbg, hg, hnc, hcm, hcs, htake⟩
  · have hx : xs = [] := List.eq_nil_of_length_eq_zero (by simpa using hown.1)
    subst hx
    have hge := grownCap_ge w m 0 e
    have hcm := grownCap_le_maxLen w m 0 e (by omega)
    refine ⟨_, _, e, run_append_nil (P := P) w t ty e i z ht hi hz a m c news hl hnews hm (by omega) (by simp at hbytes; omega), ?_, grown_drew_alloc _ _, w.heap.size, _, by rw [Nat.zero_add], by omega, hcm, .inr (Nat.le_refl _)⟩
    simp only [Nat.zero_add, List.nil_append]
    have := fresh_row (w := w) (e := e) (size := i.size) (n := m) (cap := grownCap w m 0 e) (cs := news ++ (Builtin.zeroCells z.cells (grownCap w m 0 e - m)).toList) (xs := news) hl (by rw [← hl, List.take_left]) (by
      have e9 : (Builtin.zeroCells z.cells (grownCap w m 0 e - m)).toList.length = (grownCap w m 0 e - m) * z.cells.size := by rw [Array.length_toList, size_zeroCells]
      rw [List.length_append, e9, hzs, hl, ← Nat.add_mul]; congr 1; omega) hge hcm w.drew rfl
    rw [show (news ++ (Builtin.zeroCells z.cells (grownCap w m 0 e - m)).toList).toArray = news.toArray ++ Builtin.zeroCells z.cells (grownCap w m 0 e - m) by rw [← Array.toList_inj]; simp] at this
    exact this
  · by_cases hroom : n + m ≤ cap
    · have hfit : n * i.size + news.length ≤ cur.size := by rw [hl, hcs, ← Nat.add_mul]; exact Nat.mul_le_mul_right _ hroom
      have hf := run_firstCells_some (P := P) w i.size m a m c news hl hnews
      have hst := run_storeCells_at P g (n * i.size) e0 news 0 cur w hg (by simpa using hfit) h1
      simp only [Nat.add_zero] at hst
      refine ⟨.slice (some ⟨g, 0, none⟩) (n + m) cap, _, e0, ?_, ⟨hlen, .inr ⟨g, cap, _, rfl, hbg, setRow_heap w g cur (cur.toList.take (n * i.size) ++ news ++ cur.toList.drop (n * i.size + news.length)).toArray e0 _ hg, hroom, hcm, ?_, ?_⟩⟩, ⟨rfl, rfl, rfl, by simp [World.setRow], fun k _ hk => setRow_other w g k _ (fun e => hk (by simp [Value.ownBlock, e]))⟩, g, cap, rfl, hroom, hcm, .inl rfl⟩
      · simp [Builtin.append_, run_underlying ht, Go.sizeOf, typeInfo, hi, Builtin.lenOf, hroom, hf, Addr.add_lit, hst]
      · simp only [List.size_toArray, List.length_append, List.length_take, List.length_drop, Array.length_toList]
        omega
      · rw [htake, ← hlen]
        exact List.take_left
    · have holds : ∀ j u, xs[j]? = some u → w.cell? ((⟨g, 0, none⟩ : Addr).add j) = some u := hown.cells (g := g) rfl
      have hge := grownCap_ge w (n + m) cap e
      have hcm' := grownCap_le_maxLen w (n + m) cap e (by omega)
      refine ⟨_, _, e, run_append_grow (P := P) w t ty e i z ht hi hz ⟨g, 0, none⟩ n cap xs hown.1 holds a m c news hl hnews (by omega) (by omega) (growslice_fits (by omega) hbytes), ?_, grown_drew_alloc _ _, w.heap.size, _, rfl, hge, hcm', .inr (Nat.le_refl _)⟩
      have := fresh_row (w := w) (e := e) (size := i.size) (n := n + m) (cap := grownCap w (n + m) cap e) (cs := xs ++ news ++ (Builtin.zeroCells z.cells (grownCap w (n + m) cap e - (n + m))).toList) (xs := xs ++ news) hlen (by rw [← hlen, List.take_left]) (by
        have e9 : (Builtin.zeroCells z.cells (grownCap w (n + m) cap e - (n + m))).toList.length = (grownCap w (n + m) cap e - (n + m)) * z.cells.size := by rw [Array.length_toList, size_zeroCells]
        rw [List.length_append, e9, hzs, hlen, ← Nat.add_mul]; congr 1; omega) hge hcm' w.drew rfl
      rw [show (xs ++ news ++ (Builtin.zeroCells z.cells (grownCap w (n + m) cap e - (n + m))).toList).toArray = xs.toArray ++ news.toArray ++ Builtin.zeroCells z.cells (grownCap w (n + m) cap e - (n + m)) by rw [← Array.toList_inj]; simp] at this
      exact this
theorem flat_take (ks : List Kd) (xs : List (Tup ks)) (a : Nat) (h : a ≤ xs.length) : flat ks (xs.take a) = (flat ks xs).take (a * ks.length) := by
  have e : flat ks xs = flat ks (xs.take a) ++ flat ks (xs.drop a) := by rw [← flat_append, List.take_append_drop]
  have hl : (flat ks (xs.take a)).length = a * ks.length := by rw [flat_length, List.length_take, Nat.min_eq_left h]
  rw [e, ← hl, List.take_left]
theorem flat_drop (ks : List Kd) (xs : List (Tup ks)) (a : Nat) (h : a ≤ xs.length) : flat ks (xs.drop a) = (flat ks xs).drop (a * ks.length) := by
  have e : flat ks xs = flat ks (xs.take a) ++ flat ks (xs.drop a) := by rw [← flat_append, List.take_append_drop]
  have hl : (flat ks (xs.take a)).length = a * ks.length := by rw [flat_length, List.length_take, Nat.min_eq_left h]
  conv => rhs; rw [e, ← hl, List.drop_left]
theorem own_ok {e : TypeId} {size n : Nat} {v : Value} {xs : List Value} (h : w.ownsRow 0 e size v n xs) : ∃ base cap, v = .slice base n cap ∧ okSl base n cap := by
  rcases h.2 with ⟨rfl, rfl⟩ | ⟨g, cap, cur, rfl, _, _, h1, h2, _⟩
  · exact ⟨none, 0, rfl, ⟨by omega, Nat.zero_le _⟩, nofun, fun _ => rfl⟩
  · exact ⟨_, cap, rfl, ⟨h1, h2⟩, fun x hx => by cases hx; rfl, nofun⟩
theorem own_cut {ks : List Kd} {xs : List (Tup ks)} {e0 : TypeId} {l z b : Nat} {u : Value} (hown : w.ownsRow 0 e0 ks.length (ν.sv l) xs.length (flat ks xs)) (hs : relA ν N (.sb l z 0 b) u) :
    w.ownsRow 0 e0 ks.length u b (flat ks (xs.take b)) ∧ b ≤ xs.length ∧ u.ownBlock = (ν.sv l).ownBlock := by
  obtain ⟨hl, base, n, cap, base', hsv, hab, hbn, hok, rfl, hba, hok'⟩ := hs
  have hb := hba (.inr rfl)
  have hb2 : base' = base := by
    rw [hb]
    cases base with
    | none => rfl
    | some x =>
      show some (⟨x.block, x.off + 0 * z, none⟩ : Addr) = some x
      rw [Nat.zero_mul, Nat.add_zero, ← spotless (hok.2.1 x rfl)]
  subst hb2
  rcases hown.2 with ⟨h1, h2⟩ | ⟨g, cap', cur, h1, h2, h3, h4, h5, h6, h7⟩
  · rw [hsv] at h1
    obtain ⟨q1, q2, q3⟩ := slice_inj h1
    subst q1
    have hb0 : b = 0 := by omega
    subst hb0
    subst q3
    refine ⟨World.ownsRow_nil w 0 e0 ks.length, Nat.zero_le _, ?_⟩
    rw [hsv]
    rfl
  · rw [hsv] at h1
    obtain ⟨q1, q2, q3⟩ := slice_inj h1
    subst q1
    subst q3
    have hbx : b ≤ xs.length := by omega
    refine ⟨⟨by rw [flat_length, List.length_take, Nat.min_eq_left hbx], .inr ⟨g, cap, cur, rfl, h2, h3, by omega, h5, h6, ?_⟩⟩, hbx, by rw [hsv]; rfl⟩
    rw [flat_take ks xs b hbx, ← h7, List.take_take, Nat.min_eq_left (Nat.mul_le_mul_right _ hbx)]
theorem bytes_info {e : TypeId} {i : TypeInfo} (h : P.info? e = some i) : P.bytesOf e = i.bytes := by simp [Program.bytesOf, h]
theorem append_nothing {t ty e e0 : TypeId} {i : TypeInfo} (ht : P.underlying t = some (.slice e)) (hi : P.info? e = some i) {v : Value} {n : Nat} {xs : List Value} (hown : w.ownsRow 0 e0 i.size v n xs) {base : Option Addr} {c : Nat} :
    (Builtin.append_ #[t, t] ty #[v, .slice base 0 c]).run P w = .ok v w := by
  rcases hown.2 with ⟨rfl, rfl⟩ | ⟨g, cap, cur, rfl, _, _, hnc, _⟩
  · cases base <;> simp [Builtin.append_, run_underlying ht, Go.sizeOf, typeInfo, hi, Builtin.lenOf, Builtin.firstCells, loadCells, loadCellsFrom]
  · cases base <;> simp [Builtin.append_, run_underlying ht, Go.sizeOf, typeInfo, hi, Builtin.lenOf, Builtin.firstCells, hnc, storeCells, loadCells, loadCellsFrom]
theorem hpH_up (hH : hpH ν N w H) {N' : Nat} (h : N ≤ N') : hpH ν N' w H :=
  ⟨fun l o hl => ⟨Nat.lt_of_lt_of_le (hH.ob l o hl).1 h, obH_kept (fun _ _ => ⟨rfl, rfl⟩) h (Nat.le_refl _) (hH.ob l o hl).1 rfl (fun _ _ => rfl) (hH.ob l o hl).2⟩, fun l o hl => Nat.lt_of_lt_of_le (hH.st l o hl) h, hH.ap⟩
theorem append_zero {t ty e : TypeId} {i : TypeInfo} {z : Value} (ht : P.underlying t = some (.slice e)) (hi : P.info? e = some i) (hz : i.zero = some z) (hzs : z.cells.size = i.size) {b a : Addr} {m c : Nat} {news : List Value} (hl : news.length = m * i.size)
    (hnews : ∀ j u, news[j]? = some u → w.cell? (a.add j) = some u) (h63 : m ≤ 140737488355328) (hbytes : m * i.bytes ≤ 140737488355328) (hm : 0 < m) :
    ∃ w' cap, (Builtin.append_ #[t, t] ty #[.slice (some b) 0 0, .slice (some a) m c]).run P w = .ok (.slice (some ⟨w.heap.size, 0, none⟩) m cap) w' ∧ w'.ownsRow 0 e i.size (.slice (some ⟨w.heap.size, 0, none⟩) m cap) m news ∧ w.grownBy w' none ∧ m ≤ cap ∧ cap ≤ maxLen := by
  have hmx : (140737488355328 : Nat) ≤ maxLen := by decide
  have hge := grownCap_ge w m 0 e
  have hcm := grownCap_le_maxLen w m 0 e (by omega)
  have hrun := run_append_grow (P := P) w t ty e i z ht hi hz b 0 0 [] (by simp) (by simp) a m c news hl hnews (by omega) (by omega) (by rw [Nat.zero_add, nextslicecap_zero hm]; omega)
  rw [Nat.zero_add] at hrun
  refine ⟨_, _, hrun, ?_, grown_drew_alloc _ _, hge, hcm⟩
  have := fresh_row (w := w) (e := e) (size := i.size) (n := m) (cap := grownCap w m 0 e) (cs := news ++ (Builtin.zeroCells z.cells (grownCap w m 0 e - m)).toList) (xs := news) hl (by rw [← hl, List.take_left]) (by
    have e9 : (Builtin.zeroCells z.cells (grownCap w m 0 e - m)).toList.length = (grownCap w m 0 e - m) * z.cells.size := by rw [Array.length_toList, size_zeroCells]
    rw [List.length_append, e9, hzs, hl, ← Nat.add_mul]; congr 1; omega) hge hcm w.drew rfl
  rw [show (news ++ (Builtin.zeroCells z.cells (grownCap w m 0 e - m)).toList).toArray = [].toArray ++ news.toArray ++ Builtin.zeroCells z.cells (grownCap w m 0 e - m) by rw [← Array.toList_inj]; simp] at this
  exact this
theorem append_none {t ty e : TypeId} {i : TypeInfo} (ht : P.underlying t = some (.slice e)) (hi : P.info? e = some i) {b base : Option Addr} {c : Nat} :
    (Builtin.append_ #[t, t] ty #[.slice b 0 0, .slice base 0 c]).run P w = .ok (.slice b 0 0) w := by
  cases b <;> cases base <;> simp [Builtin.append_, run_underlying ht, Go.sizeOf, typeInfo, hi, Builtin.lenOf, Builtin.firstCells, storeCells, loadCells, loadCellsFrom]
theorem csource_sound (hH : hpH ν N w H) {x : R} {v : Value} {z m : Nat} {ys : List A} (hx : relR ν N x v) (h : csource H x = some (z, m, ys)) :
    0 < z ∧ ∃ e vs, w.ownsRow 0 e z v m vs ∧ relAs ν N ys vs := by
  unfold csource at h
  split at h
  · rename_i l n
    split at h
    · rename_i z' m' cs hg
      cases h
      obtain ⟨_, rfl, _⟩ := hx
      obtain ⟨h0, _, e, vs, h1, h2⟩ := (hH.ob _ _ hg).2
      exact ⟨h0, e, vs, h1, h2⟩
    · cases h
  · cases h
theorem appendC_sound (hH : hpH ν N w H) {t ty e : TypeId} {s x : R} {u v : Value} (hu : P.underlying t = some (.slice e)) (hs : relR ν N s u) (hx : relR ν N x v) (h : appendC P H N e s x fun r H => K r H (N + 1)) :
    ∃ z w', (Builtin.append_ #[t, t] ty #[u, v]).run P w = .ok z w' ∧ Goes ν N H w K z w' := by
  unfold appendC at h
  split at h
  rotate_left
  · exact h.elim
  rename_i za z m ys hza hcs
  split at h
  · exact h.elim
  rename_i hck
  simp only [Bool.and_eq_true] at hck
  have hz1 := Nat.eq_of_beq_eq_true hck.1
  have hz2 := Nat.eq_of_beq_eq_true hck.2.1
  have hm := Nat.le_of_ble_eq_true hck.2.2
  obtain ⟨i, zv, hi, hz, hzr⟩ := zatoms_some (ν := ν) (N := N) hza
  have hco : P.cellsOf e = i.size := by simp [Program.cellsOf, hi]
  have hsz : i.size = z := by rw [← hco, hz1]
  have hzs : zv.cells.size = i.size := by have := relAs_length hzr; rw [hsz, ← hz2, this]; simp
  obtain ⟨hzp, ey, vs, hy1, hy2⟩ := csource_sound hH hx hcs
  have hvs : ∃ g cap, v = .slice (some ⟨g, 0, none⟩) m cap := by
    rcases hy1.2 with ⟨_, h5⟩ | ⟨g, cap, cur, h4, _⟩
    · omega
    · exact ⟨g, cap, h4⟩
  obtain ⟨gy, cy, rfl⟩ := hvs
  have hcell := hy1.cells (g := gy) rfl
  have key : ∀ {xs : List A} {vx : List Value} {n : Nat} {e0 : TypeId} (c : Option Nat), w.ownsRow 0 e0 z u n vx → relAs ν N xs vx → (∀ l, c = some l → ∃ o, hget H l = some o ∧ ownOb o = true ∧ ∀ b, u.ownBlock = some b → fpO ν l o b) → (c = none → u.ownBlock = none) →
      n + m ≤ 140737488355328 → (n + m) * P.bytesOf e ≤ 140737488355328 → K (.a (.f N (n + m))) ((N, N, .crow z (n + m) (xs ++ ys)) :: goneH H N c) (N + 1) →
      ∃ z w', (Builtin.append_ #[t, t] ty #[u, .slice (some ⟨gy, 0, none⟩) m cy]).run P w = .ok z w' ∧ Goes ν N H w K z w' := by
    intro xs vx n e0 c hown hr c1 c0 h63 hby hK
    rw [← hsz] at hown
    rw [bytes_info hi] at hby
    obtain ⟨v', w', e', h1, h2, h3, g, cap', hv', hg1, hg2, hg3⟩ := run_append_any (c := cy) (ty := ty) hu hi hz hzs hown (a := ⟨gy, 0, none⟩) (m := m) (news := vs) (by rw [hsz]; exact hy1.1) hcell (relAs_one hy2) h63 hby hm
    have hob : v'.ownBlock = some g := by rw [hv']; rfl
    rw [hsz] at h2
    have hobj : obH (ν.setS N v' fun b => v'.ownBlock = some b) (N + 1) w' N (Ob.crow z (n + m) (xs ++ ys)) := ⟨hzp, fun b => by simp [Nu.setS], e', vx ++ vs, by simpa [Nu.setS] using h2, relAs_mono (agree_setS _ _ _ _) (Nat.le_succ N) (relAs_append hr hy2)⟩
    refine ⟨v', w', h1, newOwn hH c (fun l hl => ?_) (fun hc' b hb => ?_) (Go1.grown h3 fun b hb => ?_) (fun l o hl hg b hb => ?_) hobj
      ⟨some ⟨g, 0, none⟩, cap', hv', ⟨hg1, hg2⟩, fun x hx => by cases hx; rfl, nofun⟩ hK⟩
    · obtain ⟨o, q1, q2, q3⟩ := c1 l hl
      refine ⟨o, q1, q2, fun b hb => ?_⟩
      rw [hob] at hb
      cases hb
      rcases hg3 with h | h
      · exact .inr (q3 _ h)
      · exact .inl h
    · rw [hob] at hb
      cases hb
      rcases hg3 with h | h
      · rw [c0 hc'] at h; cases h
      · exact h
    · cases c with
      | none => rw [c0 rfl] at hb; cases hb
      | some l =>
        obtain ⟨o, q1, q2, q3⟩ := c1 l rfl
        exact ⟨l, o, q1, q2, by have := q3 b hb; cases o <;> first | exact this | cases q2⟩
    · refine h3.block b (fp_lt (hH.ob l o hg).2 hb) fun hb' => ?_
      cases c with
      | none => rw [c0 rfl] at hb'; cases hb'
      | some m =>
        obtain ⟨om, q1, q2, q3⟩ := c1 m rfl
        exact hH.ap l m o om (fun e => hl (by rw [e])) hg q1 (.inr q2) b hb (q3 b hb'.symm)
  split at h
  · obtain ⟨⟨hb1, hb2⟩, h⟩ := h
    cases hs
    exact key (xs := []) (vx := []) (n := 0) (e0 := e) none (World.ownsRow_nil w 0 e z) trivial nofun (fun _ => rfl) (by simpa using hb2) (by simpa using hb1) (by simpa [goneH] using h)
  · rename_i l n'
    split at h
    · rename_i z' n xs hg
      split at h
      · rename_i hzz
        have hzz := Nat.eq_of_beq_eq_true hzz
        subst hzz
        obtain ⟨⟨hb1, hb2⟩, h⟩ := h
        obtain ⟨hl, rfl, base, cap, hsv, hok⟩ := hs
        obtain ⟨_, hfp, e0, vx, hown, hr⟩ := (hH.ob _ _ hg).2
        exact key (some l) hown hr (fun m hm => by cases hm; exact ⟨_, hg, rfl, fun b hb => (hfp b).2 hb⟩) nofun hb2 hb1 h
      · exact h.elim
    · exact h.elim
  · exact h.elim
theorem append_sound (hH : hpH ν N w H) {t ty : TypeId} {s x : R} {u v : Value} (hs : relR ν N s u) (hx : relR ν N x v) (h : append P H N t s x fun r H => K r H (N + 1)) :
    ∃ z w', (Builtin.append_ #[t, t] ty #[u, v]).run P w = .ok z w' ∧ Goes ν N H w K z w' := by
  unfold append at h
  split at h
  · exact h.elim
  rename_i e he
  have hu := elemT_some he
  split at h
  · exact appendC_sound hH hu hs hx h
  rename_i ks hks
  obtain ⟨i, z, hi, hz, hsz, hk, hzc, hzs, hco⟩ := rowT_some hks
  split at h
  · exact h.elim
  rename_i ys hys
  -- the source's cells
  have hsrc := source_sound hH hx hys
  have key : ∀ {xs : List (Tup ks)} {e0 : TypeId} (c : Option Nat), w.ownsRow 0 e0 ks.length u xs.length (flat ks xs) → wfT ks xs → (∀ l, c = some l → ∃ o, hget H l = some o ∧ ownOb o = true ∧ ∀ b, u.ownBlock = some b → fpO ν l o b) → (c = none → u.ownBlock = none) →
      xs.length + ys.length ≤ 140737488355328 → (xs.length + ys.length) * P.bytesOf e ≤ 140737488355328 → K (.a (.f N (xs.length + ys.length))) ((N, N, .row true ks (xs ++ ys)) :: goneH H N c) (N + 1) →
      ∃ z w', (Builtin.append_ #[t, t] ty #[u, v]).run P w = .ok z w' ∧ Goes ν N H w K z w' := by
    intro xs e0 c hown hw hc hc0 h63 hby hK
    rw [← hsz] at hown
    rw [bytes_info hi] at hby
    by_cases hm : ys = []
    · subst hm
      have hv : ∃ base c, v = .slice base 0 c := by
        rcases hsrc with ⟨rfl, _⟩ | ⟨_, base, cap, rfl, _⟩
        · exact ⟨none, 0, rfl⟩
        · exact ⟨base, cap, rfl⟩
      obtain ⟨base, cap, rfl⟩ := hv
      refine ⟨u, w, append_nothing hu hi hown, newRow hH c (fun l hl => ?_) (fun hc' b hb => by rw [hc0 hc'] at hb; cases hb) (Go1.refl _ _) (fun _ _ _ _ _ _ => rfl) hk (xs := xs ++ []) (by simpa using hw) (by rw [List.append_nil, ← hsz]; exact hown) (by rw [List.append_nil]; exact own_ok hown) (by simp) hK⟩
      obtain ⟨o, h1, h2, h3⟩ := hc l hl
      exact ⟨o, h1, h2, fun b hb => .inr (h3 b hb)⟩
    · rcases hsrc with ⟨_, h0⟩ | ⟨hwy, base, cap, rfl, hok, hcell⟩
      · exact absurd h0 hm
      obtain ⟨v0, hv0⟩ := flat_ne hk hm
      obtain ⟨a, rfl, _⟩ := hcell 0 v0 hv0
      have hpos : 0 < ys.length := List.length_pos_iff.2 hm
      obtain ⟨v', w', e', h1, h2, h3, g, cap', hv', hg1, hg2, hg3⟩ := run_append_any (c := cap) (ty := ty) hu hi hz (by omega) hown (a := a) (m := ys.length) (news := flat ks ys) (by rw [flat_length, hsz]) (fun j q hq => by
        obtain ⟨a', ha', hc'⟩ := hcell j q hq
        cases ha'
        exact hc') (vals_one ys) h63 hby hpos
      have hob : v'.ownBlock = some g := by rw [hv']; rfl
      rw [← flat_append, ← List.length_append, hsz] at h2
      refine ⟨v', w', h1, newRow hH c (fun l hl => ?_) (fun hc' b hb => ?_) (Go1.grown h3 fun b hb => ?_) (fun l o hl hg b hb => ?_) hk (xs := xs ++ ys) (fun q hq => (List.mem_append.1 hq).elim (hw q) (hwy q)) h2 ⟨some ⟨g, 0, none⟩, cap', by rw [hv', List.length_append], ⟨by rw [List.length_append]; omega, hg2⟩, fun x hx => by cases hx; rfl, nofun⟩ (by simp) hK⟩
      · obtain ⟨o, q1, q2, q3⟩ := hc l hl
        refine ⟨o, q1, q2, fun b hb => ?_⟩
        rw [hob] at hb
        cases hb
        rcases hg3 with h | h
        · exact .inr (q3 _ h)
        · exact .inl h
      · rw [hob] at hb
        cases hb
        rcases hg3 with h | h
        · rw [hc0 hc'] at h; cases h
        · exact h
      · cases c with
        | none => rw [hc0 rfl] at hb; cases hb
        | some l =>
          obtain ⟨o, q1, q2, q3⟩ := hc l rfl
          exact ⟨l, o, q1, q2, by have := q3 b hb; cases o <;> first | exact this | cases q2⟩
      · refine h3.block b (fp_lt (hH.ob l o hg).2 hb) fun hb' => ?_
        cases c with
        | none => rw [hc0 rfl] at hb'; cases hb'
        | some m =>
          obtain ⟨om, q1, q2, q3⟩ := hc m rfl
          exact hH.ap l m o om (fun e => hl (by rw [e])) hg q1 (.inr q2) b hb (q3 b hb'.symm)
  split at h
  · obtain ⟨⟨hb1, hb2⟩, h⟩ := h
    cases hs
    refine key (xs := []) (e0 := e) none ?_ (by simp [wfT]) nofun (fun _ => rfl) (by simpa using hb2) (by simpa using hb1) (by simpa [goneH] using h)
    exact World.ownsRow_nil w 0 e ks.length
  · obtain ⟨b, rfl, hsp⟩ := hs
    unfold ifB at h
    split at h
    · rename_i hempty
      have hm : ys = [] := by simpa using hempty
      subst hm
      have hv : ∃ base c, v = .slice base 0 c := by
        rcases hsrc with ⟨rfl, _⟩ | ⟨_, base, cap, rfl, _⟩
        · exact ⟨none, 0, rfl⟩
        · exact ⟨base, cap, rfl⟩
      obtain ⟨base, cap, rfl⟩ := hv
      exact ⟨_, w, append_none hu hi, ν, N + 1, H, .a .z, (show relA ν (N + 1) .z (.slice b 0 0) from ⟨b, rfl, hsp⟩), hpH_up hH (Nat.le_succ N), Mv.stay _ _ _ _ _ (Nat.le_succ N), h⟩
    · rename_i hempty
      have hm : ys ≠ [] := by simpa using hempty
      obtain ⟨⟨hb1, hb2⟩, h⟩ := h
      cases b with
      | none =>
        refine key (xs := []) (e0 := e) none ?_ (by simp [wfT]) nofun (fun _ => rfl) (by simpa using hb2) (by simpa using hb1) (by simpa [goneH] using h)
        exact World.ownsRow_nil w 0 e ks.length
      | some b =>
        rcases hsrc with ⟨_, h0⟩ | ⟨hwy, base, cap, rfl, hok, hcell⟩
        · exact absurd h0 hm
        obtain ⟨v0, hv0⟩ := flat_ne hk hm
        obtain ⟨a, rfl, _⟩ := hcell 0 v0 hv0
        rw [bytes_info hi] at hb1
        obtain ⟨w', cap', h1, h2, h3, h4, h5⟩ := append_zero (P := P) (w := w) (ty := ty) (b := b) (a := a) (c := cap) hu hi hz (by omega) (m := ys.length) (news := flat ks ys) (by rw [flat_length, hsz]) (fun j q hq => by
          obtain ⟨a', ha', hc'⟩ := hcell j q hq
          cases ha'
          exact hc') hb2 hb1 (List.length_pos_iff.2 hm)
        rw [hsz] at h2
        refine ⟨_, w', h1, newRow hH none nofun (fun _ b hb => by cases hb; exact Nat.le_refl _) (Go1.grown h3 nofun) (fun l o _ hg b hb => h3.block b (fp_lt (hH.ob l o hg).2 hb) nofun) hk hwy h2 ⟨_, cap', rfl, ⟨h4, h5⟩, fun x hx => by cases hx; rfl, nofun⟩ rfl h⟩
  · rename_i l n
    obtain ⟨hl, rfl, base, cap, hsv, hok⟩ := hs
    split at h
    · rename_i ks' xs' hg
      split at h
      · rename_i xs hcast
        obtain ⟨e1, e2⟩ := castRow_some hcast
        subst e1
        subst e2
        obtain ⟨⟨hb1, hb2⟩, h⟩ := h
        obtain ⟨_, hw, hfp, e0, hown⟩ := (hH.ob _ _ hg).2
        obtain ⟨base', cap', hsv', _⟩ := own_ok hown
        rw [hsv] at hsv'
        obtain ⟨_, hn, _⟩ := slice_inj hsv'
        subst hn
        exact key (some l) hown hw (fun m hm => by cases hm; exact ⟨_, hg, rfl, fun b hb => (hfp b).2 hb⟩) nofun hb2 hb1 h
      · exact h.elim
    · exact h.elim
  · rename_i l z' a b
    split at h
    · rename_i ks' xs' hg hz'
      simp only [Bool.and_eq_true] at hz'
      have ha' := Nat.eq_of_beq_eq_true hz'.2
      subst ha'
      have hz' := Nat.eq_of_beq_eq_true hz'.1
      split at h
      · rename_i xs hcast
        obtain ⟨e1, e2⟩ := castRow_some hcast
        subst e1
        subst e2
        obtain ⟨⟨hb1, hb2⟩, h⟩ := h
        obtain ⟨_, hw, hfp, e0, hown⟩ := (hH.ob _ _ hg).2
        obtain ⟨h1, h2, h3⟩ := own_cut hown hs
        have hlen : (xs'.take b).length = b := by rw [List.length_take]; omega
        refine key (xs := xs'.take b) (some l) (by rw [hlen]; exact h1) (fun q hq => hw q (List.mem_of_mem_take hq)) (fun m hm => by cases hm; exact ⟨_, hg, rfl, fun b hb => (hfp b).2 (by rw [← h3]; exact hb)⟩) nofun (by rw [hlen]; exact hb2) (by rw [hlen]; exact hb1) ?_
        rw [hlen]
        exact h
      · exact h.elim
    · exact h.elim
  · exact h.elim
theorem mid_length {α : Type} (xs : List α) (a : Nat) (ys : List α) (h : a + ys.length ≤ xs.length) : (mid xs a ys).length = xs.length := by
  simp only [mid, List.length_append, List.length_take, List.length_drop]; omega
theorem flat_mid_set (ks : List Kd) (xs : List (Tup ks)) (a : Nat) (ys : List (Tup ks)) (h : a + ys.length ≤ xs.length) : flat ks (mid xs a ys) = setAtV (flat ks xs) (a * ks.length) (flat ks ys) := by
  have hb : a * ks.length + ys.length * ks.length ≤ xs.length * ks.length := by rw [← Nat.add_mul]; exact Nat.mul_le_mul_right _ h
  rw [setAtV_eq _ _ _ (by rw [flat_length, flat_length]; exact hb), flat_length, ← Nat.add_mul, ← flat_take _ _ _ (by omega), ← flat_drop _ _ _ (by omega), mid, flat_append, flat_append, List.append_assoc]
theorem mid_mem {α : Type} {xs : List α} {a : Nat} {ys : List α} {x : α} (h : x ∈ mid xs a ys) : x ∈ xs ∨ x ∈ ys := by
  simp only [mid, List.mem_append] at h
  rcases h with h | h | h
  · exact .inl (List.mem_of_mem_take h)
  · exact .inr h
  · exact .inl (List.mem_of_mem_drop h)
theorem mid_nil {α : Type} (xs : List α) (a : Nat) : mid xs a [] = xs := by simp [mid]
theorem row_written (hH : hpH ν N w H) {l : Nat} {ks : List Kd} {xs : List (Tup ks)} (hg : hget H l = some (.row true ks xs)) {a : Nat} {ys : List (Tup ks)} (hw : wfT ks ys) (hfit : a + ys.length ≤ xs.length) {r : R} {v : Value} (hr : relR ν (N + 1) r v)
    (h : K r (hset H l N (.row true ks (mid xs a ys))) (N + 1)) (hne : ys ≠ []) :
    ∃ g cap cur e, ν.sv l = .slice (some ⟨g, 0, none⟩) xs.length cap ∧ w.heap[g]? = some (.cells cur e (0, 0)) ∧ a * ks.length + (flat ks ys).length ≤ cur.size ∧
      Goes ν N H w K v (w.setRow g (setAtV cur.toList (a * ks.length) (flat ks ys)).toArray) := by
  obtain ⟨hk, hwx, hfp, e, hown⟩ := (hH.ob _ _ hg).2
  have hpos : 0 < ys.length := List.length_pos_iff.2 hne
  rcases hown.2 with ⟨h4, h5⟩ | ⟨g, cap, cur, h4, h5, h6, h7, h8, h9, h10⟩
  · omega
  have hb : a * ks.length + ys.length * ks.length ≤ xs.length * ks.length := by rw [← Nat.add_mul]; exact Nat.mul_le_mul_right _ hfit
  have hb2 : xs.length * ks.length ≤ cur.size := by rw [h9]; exact Nat.mul_le_mul_right _ h7
  have hfl := flat_length ks ys
  refine ⟨g, cap, cur, e, h4, h6, by omega, setOwn (o' := .row true ks (mid xs a ys)) hH hg rfl (fun b hb => hb) (go_setRow ((hfp g).2 (by rw [h4]; rfl))) ?_ hr h⟩
  refine ⟨hk, fun x hx => (mid_mem hx).elim (hwx x) (hw x), hfp, e, by rw [flat_length], .inr ⟨g, cap, _, by rw [h4, mid_length _ _ _ hfit], h5, setRow_heap w g cur _ e _ h6, by rw [mid_length _ _ _ hfit]; exact h7, h8, by simp [setAtV_length, h9], ?_⟩⟩
  rw [mid_length _ _ _ hfit, flat_mid_set _ _ _ _ hfit, ← h10]
  have e1 := List.take_append_drop (xs.length * ks.length) cur.toList
  have e2 : (cur.toList.take (xs.length * ks.length)).length = xs.length * ks.length := by have e3 : cur.toList.length = cur.size := Array.length_toList; rw [List.length_take]; omega
  conv => lhs; rw [← e1]
  simp only []
  rw [setAtV_append_left _ _ _ _ (by rw [e2]; omega), List.take_left' (by rw [setAtV_length, e2])]
theorem row_unwritten (hH : hpH ν N w H) {l : Nat} {ks : List Kd} {xs : List (Tup ks)} (hg : hget H l = some (.row true ks xs)) {r : R} {v : Value} (hr : relR ν (N + 1) r v)
    (h : K r (hset H l N (.row true ks xs)) (N + 1)) : Goes ν N H w K v w :=
  setOwn (o' := .row true ks xs) hH hg rfl (fun b hb => hb) (Go1.refl _ _) (obH_kept (fun _ _ => ⟨rfl, rfl⟩) (Nat.le_succ N) (Nat.le_refl _) (hH.ob _ _ hg).1 rfl (fun _ _ => rfl) (hH.ob _ _ hg).2) hr h
theorem zeros_list (z : Array Value) : ∀ (n : Nat), (((Array.range (n * z.size)).map fun i => z[i % z.size]!)).toList = (List.replicate n z.toList).flatten
  | 0 => by simp
  | n + 1 => by
    have ih := zeros_list z n
    simp only [Array.toList_map, Array.toList_range] at ih ⊢
    rw [Nat.succ_mul, List.range_add, List.map_append, ih, List.replicate_succ', List.flatten_append]
    congr 1
    simp only [List.map_map, List.flatten_singleton]
    apply List.ext_getElem
    · simp
    · intro j h1 h2
      have hj : j < z.size := by simpa using h2
      simp [Nat.mul_add_mod_of_lt hj, Nat.mod_eq_of_lt hj, getElem!_pos z j hj]
theorem flat_replicate (ks : List Kd) (n : Nat) (x : Tup ks) : flat ks (List.replicate n x) = (List.replicate n ((leafs ks x).map L.val)).flatten := by
  induction n with
  | zero => rfl
  | succ n ih => rw [List.replicate_succ, flat_cons, ih, List.replicate_succ, List.flatten_cons]
end
end Sx

set_option linter.all false
namespace Sx
open Go
section
variable {P : Program} {ν : Nu} {N : Nat} {w : World} {H : Hp} {K : R → Hp → Nat → Prop}
theorem run_copy_some {dT sT ty e e0 : TypeId} {size g o dLen dCap sLen sCap : Nat} {a : Addr} {cur : Array Value} {cs : List Value} (hu : P.underlying dT = some (.slice e)) (hs : (Go.sizeOf e).run P w = .ok size w)
    (hg : w.heap[g]? = some (.cells cur e0 (0, 0))) (hn : cs.length = min sLen dLen * size) (hsrc : ∀ j v, cs[j]? = some v → w.cell? (a.add j) = some v) (hfit : o + cs.length ≤ cur.size) (h1 : ∀ v ∈ cs, v.oneCell' = true) :
    (Builtin.copy_ #[dT, sT] ty #[.slice (some ⟨g, o, none⟩) dLen dCap, .slice (some a) sLen sCap]).run P w = .ok (.int .i64 ((min sLen dLen : Nat) : Int)) (w.setRow g (setAtV cur.toList o cs).toArray) := by
  have hl := run_firstCells_some (P := P) w size (min sLen dLen) a sLen sCap cs hn hsrc
  have hst := run_storeCells_at P g o e0 cs 0 cur w hg (by simpa using hfit) h1
  rw [setAtV_eq _ _ _ (by simpa using hfit)]
  simp only [Nat.add_zero] at hst
  have hm : Nat.min sLen dLen = min sLen dLen := rfl
  simp [Builtin.copy_, run_underlying hu, Builtin.lenOf, hs, hm, hl, hst, goInt]
theorem run_copy_zero {dT sT ty e : TypeId} {size dLen dCap sLen sCap : Nat} {db sb : Option Addr} (hu : P.underlying dT = some (.slice e)) (hs : (Go.sizeOf e).run P w = .ok size w) (h0 : min sLen dLen = 0) :
    (Builtin.copy_ #[dT, sT] ty #[.slice db dLen dCap, .slice sb sLen sCap]).run P w = .ok (.int .i64 0) w := by
  have hm : Nat.min sLen dLen = 0 := h0
  cases db <;> cases sb <;> simp [Builtin.copy_, run_underlying hu, Builtin.lenOf, hs, hm, Builtin.firstCells, loadCells, loadCellsFrom, storeCells, goInt]
theorem min_range {n m cap : Nat} (h : n ≤ cap) (hc : cap ≤ maxLen) : lo .i64 ≤ ((min m n : Nat) : Int) ∧ ((min m n : Nat) : Int) ≤ hi .i64 := by
  have h1 := maxLen_hi
  have h2 := lo_le .i64
  omega
theorem copy_core (hH : hpH ν N w H) {dT sT ty e : TypeId} {ks : List Kd} {l a b : Nat} {xs ys : List (Tup ks)} {db : Option Addr} {dCap : Nat} {v : Value} (hu : P.underlying dT = some (.slice e)) (hs : (Go.sizeOf e).run P w = .ok ks.length w)
    (hg : hget H l = some (.row true ks xs)) (hab : a ≤ b) (hb : b ≤ xs.length) (hok : okSl db (b - a) dCap) (hdb : ∀ g cap, ν.sv l = .slice (some ⟨g, 0, none⟩) xs.length cap → a < b → db = some ⟨g, a * ks.length, none⟩)
    (hsrc : (v = .slice none 0 0 ∧ ys = []) ∨ (wfT ks ys ∧ ∃ base cap, v = .slice base ys.length cap ∧ okSl base ys.length cap ∧ ∀ j u, (flat ks ys)[j]? = some u → ∃ x, base = some x ∧ w.cell? (x.add j) = some u))
    (h : K (.i .i64 ((min ys.length (b - a) : Nat) : Int)) (hset H l N (.row true ks (mid xs a (ys.take (min ys.length (b - a)))))) (N + 1)) :
    ∃ z w', (Builtin.copy_ #[dT, sT] ty #[.slice db (b - a) dCap, v]).run P w = .ok z w' ∧ Goes ν N H w K z w' := by
  by_cases h0 : min ys.length (b - a) = 0
  · rw [h0, List.take_zero, mid_nil] at h
    have hr : relR ν (N + 1) (.i .i64 ((0 : Nat) : Int)) (.int .i64 0) := relI_mk (min_range (m := 0) hok.1.1 hok.1.2 |> fun h => by simpa using h)
    have hv : ∃ sb c, v = .slice sb ys.length c := by
      rcases hsrc with ⟨rfl, rfl⟩ | ⟨_, base, cap, rfl, _⟩
      · exact ⟨none, 0, rfl⟩
      · exact ⟨base, cap, rfl⟩
    obtain ⟨sb, c, rfl⟩ := hv
    exact ⟨_, _, run_copy_zero hu hs h0, row_unwritten hH hg hr h⟩
  · rcases hsrc with ⟨_, rfl⟩ | ⟨hwy, base, cap, rfl, hokS, hcell⟩
    · simp at h0
    have hlt : (ys.take (min ys.length (b - a))).length = min ys.length (b - a) := by rw [List.length_take]; omega
    have hne : ys.take (min ys.length (b - a)) ≠ [] := by intro e; rw [e] at hlt; simp at hlt; omega
    have hne' : ys ≠ [] := by rintro rfl; simp at h0
    obtain ⟨hk, _⟩ := (hH.ob _ _ hg).2
    obtain ⟨v0, hv0⟩ := flat_ne hk hne'
    obtain ⟨x, rfl, _⟩ := hcell 0 v0 hv0
    obtain ⟨g, cap', cur, e0, h1, h2, h3, h4⟩ := row_written hH hg (a := a) (ys := ys.take (min ys.length (b - a))) (wfT_sub hwy fun q hq => List.mem_of_mem_take hq) (by rw [hlt]; omega) (r := .i .i64 ((min ys.length (b - a) : Nat) : Int))
      (relI_mk (min_range hok.1.1 hok.1.2)) h hne
    rw [hdb g cap' h1 (by omega)]
    refine ⟨_, _, run_copy_some hu hs h2 (cs := flat ks (ys.take (min ys.length (b - a)))) (by rw [flat_length, hlt]) (fun j u hu => ?_) h3 (vals_one _), h4⟩
    rw [flat_take _ _ _ (by omega), List.getElem?_take] at hu
    split at hu
    · obtain ⟨x', hx', hc⟩ := hcell j u hu
      cases hx'
      exact hc
    · cases hu
theorem copy_sound (hH : hpH ν N w H) {t sT ty : TypeId} {d x : R} {u v : Value} (hd : relR ν N d u) (hx : relR ν N x v) (h : copy P H N t d x fun r H => K r H (N + 1)) :
    ∃ z w', (Builtin.copy_ #[t, sT] ty #[u, v]).run P w = .ok z w' ∧ Goes ν N H w K z w' := by
  unfold copy at h
  split at h
  · exact h.elim
  rename_i e he
  have hu := elemT_some he
  split at h
  · exact h.elim
  rename_i ks hks
  obtain ⟨i, z, hi, hz, hsz, hk, hzc, hzs, hco⟩ := rowT_some hks
  have hs : (Go.sizeOf e).run P w = .ok ks.length w := by rw [← hco]; exact run_size1 (Nat.ble_eq_true_of_le (by omega))
  split at h
  · exact h.elim
  rename_i ys hys
  have hsrc := source_sound hH hx hys
  split at h
  · rename_i l n
    obtain ⟨hl, rfl, base, cap, hsv, hok⟩ := hd
    split at h
    · rename_i ks' xs' hg
      split at h
      · rename_i xs hcast
        obtain ⟨e1, e2⟩ := castRow_some hcast
        subst e1
        subst e2
        obtain ⟨_, hw, hfp, e0, hown⟩ := (hH.ob _ _ hg).2
        obtain ⟨base', cap', hsv', _⟩ := own_ok hown
        rw [hsv] at hsv'
        obtain ⟨_, hn, _⟩ := slice_inj hsv'
        subst hn
        have := copy_core (ty := ty) (sT := sT) (K := K) (a := 0) (b := xs'.length) hH hu hs hg (Nat.zero_le _) (Nat.le_refl _) hok (fun g cap h _ => by
          rw [hsv] at h
          obtain ⟨h, _, _⟩ := slice_inj h
          rw [h]; simp) hsrc (by simpa using h)
        rw [hsv]
        simpa using this
      · exact h.elim
    · exact h.elim
  · rename_i l zz a b
    obtain ⟨hl, base, n, cap, base', hsv, hab, hbn, hok, rfl, hba, hok'⟩ := hd
    split at h
    · rename_i ks' xs' hg hzz
      have hzz := Nat.eq_of_beq_eq_true hzz
      subst hzz
      split at h
      · rename_i xs hcast
        obtain ⟨e1, e2⟩ := castRow_some hcast
        subst e1
        subst e2
        obtain ⟨_, hw, hfp, e0, hown⟩ := (hH.ob _ _ hg).2
        obtain ⟨base2, cap2, hsv', _⟩ := own_ok hown
        rw [hsv] at hsv'
        obtain ⟨_, hn, _⟩ := slice_inj hsv'
        subst hn
        refine copy_core (ty := ty) (sT := sT) (K := K) hH hu hs hg hab hbn hok' (fun g cap3 h hlt => ?_) hsrc h
        rw [hsv] at h
        obtain ⟨h, _, hc⟩ := slice_inj h
        have := hok.1.1
        rw [hba (by omega), h]
        simp [addA]
      · exact h.elim
    · exact h.elim
  · cases hd
    have hv : ∃ sb n c, v = .slice sb n c := by
      rcases hsrc with ⟨rfl, rfl⟩ | ⟨_, base, cap, rfl, _⟩
      · exact ⟨none, 0, 0, rfl⟩
      · exact ⟨base, _, cap, rfl⟩
    obtain ⟨sb, n, c, rfl⟩ := hv
    refine ⟨_, _, run_copy_zero hu hs (by simp), ν, N + 1, H, _, relI_mk (n := 0) ⟨lo_le _, hi_ge _⟩, ?_, Mv.stay _ _ _ _ _ (Nat.le_succ N), h⟩
    exact ⟨fun l o hl => ⟨Nat.lt_succ_of_lt (hH.ob l o hl).1, obH_kept (fun _ _ => ⟨rfl, rfl⟩) (Nat.le_succ N) (Nat.le_refl _) (hH.ob l o hl).1 rfl (fun _ _ => rfl) (hH.ob l o hl).2⟩, fun l o hl => Nat.lt_succ_of_lt (hH.st l o hl), hH.ap⟩
  · exact h.elim
theorem zeroCells_flat {z : Array Value} {ks : List Kd} (hz : z.toList = (leafs ks (zT ks)).map L.val) (n : Nat) : (Builtin.zeroCells z n).toList = flat ks (List.replicate n (zT ks)) := by
  rw [flat_replicate, ← hz, ← zeros_list]; rfl
theorem run_clear_some {t ty e e0 : TypeId} {i : TypeInfo} {z : Value} {g o n cap : Nat} {cur : Array Value} {cs : List Value} (hu : P.underlying t = some (.slice e)) (hi : P.info? e = some i) (hz : i.zero = some z) (hcs : (Builtin.zeroCells z.cells n).toList = cs)
    (hg : w.heap[g]? = some (.cells cur e0 (0, 0))) (hfit : o + cs.length ≤ cur.size) (h1 : ∀ v ∈ cs, v.oneCell' = true) (hn : n ≠ 0) :
    (Builtin.clear_ #[t] ty #[.slice (some ⟨g, o, none⟩) n cap]).run P w = .ok (.tuple #[]) (w.setRow g (setAtV cur.toList o cs).toArray) := by
  have hst := run_storeCells_at P g o e0 cs 0 cur w hg (by simpa using hfit) h1
  rw [setAtV_eq _ _ _ (by simpa using hfit)]
  simp only [Nat.add_zero] at hst
  obtain ⟨n, rfl⟩ : ∃ m, n = m + 1 := ⟨n - 1, by omega⟩
  simp [Builtin.clear_, run_underlying hu, zeroValue, typeInfo, hi, hz, hcs, hst]
theorem run_clear_zero {t ty e : TypeId} {base : Option Addr} {cap : Nat} (hu : P.underlying t = some (.slice e)) : (Builtin.clear_ #[t] ty #[.slice base 0 cap]).run P w = .ok (.tuple #[]) w := by
  cases base <;> simp [Builtin.clear_, run_underlying hu]
theorem clear_core (hH : hpH ν N w H) {t ty e : TypeId} {i : TypeInfo} {z : Value} {ks : List Kd} {l a b : Nat} {xs : List (Tup ks)} {db : Option Addr} {dCap : Nat} (hu : P.underlying t = some (.slice e)) (hi : P.info? e = some i) (hz : i.zero = some z) (hzc : z.cells.toList = (leafs ks (zT ks)).map L.val)
    (hg : hget H l = some (.row true ks xs)) (hab : a ≤ b) (hb : b ≤ xs.length) (hdb : ∀ g cap, ν.sv l = .slice (some ⟨g, 0, none⟩) xs.length cap → a < b → db = some ⟨g, a * ks.length, none⟩)
    (h : K .unit (hset H l N (.row true ks (mid xs a (List.replicate (b - a) (zT ks))))) (N + 1)) :
    ∃ w', (Builtin.clear_ #[t] ty #[.slice db (b - a) dCap]).run P w = .ok undef w' ∧ Goes ν N H w K undef w' := by
  by_cases h0 : b - a = 0
  · rw [h0, List.replicate_zero, mid_nil] at h
    rw [h0]
    exact ⟨_, run_clear_zero hu, row_unwritten hH hg relR_unit h⟩
  · have hl : (List.replicate (b - a) (zT ks)).length = b - a := List.length_replicate
    obtain ⟨g, cap', cur, e0, h1, h2, h3, h4⟩ := row_written hH hg (a := a) (ys := List.replicate (b - a) (zT ks)) (fun x hx => by rw [List.eq_of_mem_replicate hx]; exact wf_zero ks) (by rw [hl]; omega) (r := .unit) relR_unit h (by intro e; rw [e] at hl; simp at hl; omega)
    rw [hdb g cap' h1 (by omega)]
    exact ⟨_, run_clear_some hu hi hz (zeroCells_flat hzc _) h2 h3 (vals_one _) h0, h4⟩
theorem clear_sound (hH : hpH ν N w H) {t ty : TypeId} {d : R} {u : Value} (hd : relR ν N d u) (h : clear P H N t d fun H => K .unit H (N + 1)) :
    ∃ w', (Builtin.clear_ #[t] ty #[u]).run P w = .ok undef w' ∧ Goes ν N H w K undef w' := by
  unfold clear at h
  split at h
  · exact h.elim
  rename_i e he
  have hu := elemT_some he
  split at h
  · exact h.elim
  rename_i ks hks
  obtain ⟨i, z, hi, hz, hsz, hk, hzc, hzs, hco⟩ := rowT_some hks
  split at h
  · rename_i l n
    obtain ⟨hl, rfl, base, cap, hsv, hok⟩ := hd
    split at h
    · rename_i ks' xs' hg
      split at h
      · rename_i xs hcast
        obtain ⟨e1, e2⟩ := castRow_some hcast
        subst e1
        subst e2
        obtain ⟨_, hw, hfp, e0, hown⟩ := (hH.ob _ _ hg).2
        obtain ⟨base', cap', hsv', _⟩ := own_ok hown
        rw [hsv] at hsv'
        obtain ⟨_, hn, _⟩ := slice_inj hsv'
        subst hn
        have := clear_core (ty := ty) (K := K) (a := 0) (b := xs'.length) (dCap := cap) (db := base) hH hu hi hz hzc hg (Nat.zero_le _) (Nat.le_refl _) (fun g cap h _ => by
          rw [hsv] at h
          obtain ⟨h, _, _⟩ := slice_inj h
          rw [h]; simp) (by simpa using h)
        rw [hsv]
        simpa using this
      · exact h.elim
    · exact h.elim
  · rename_i l zz a b
    obtain ⟨hl, base, n, cap, base', hsv, hab, hbn, hok, rfl, hba, hok'⟩ := hd
    split at h
    · rename_i ks' xs' hg hzz
      have hzz := Nat.eq_of_beq_eq_true hzz
      subst hzz
      split at h
      · rename_i xs hcast
        obtain ⟨e1, e2⟩ := castRow_some hcast
        subst e1
        subst e2
        obtain ⟨_, hw, hfp, e0, hown⟩ := (hH.ob _ _ hg).2
        obtain ⟨base2, cap2, hsv', _⟩ := own_ok hown
        rw [hsv] at hsv'
        obtain ⟨_, hn, _⟩ := slice_inj hsv'
        subst hn
        refine clear_core (ty := ty) (K := K) hH hu hi hz hzc hg hab hbn (fun g cap3 h hlt => ?_) h
        rw [hsv] at h
        obtain ⟨h, _, hc⟩ := slice_inj h
        have := hok.1.1
        rw [hba (by omega), h]
        simp [addA]
      · exact h.elim
    · exact h.elim
  · cases hd
    exact ⟨_, run_clear_zero hu, ν, N + 1, H, _, relR_unit, hpH_up hH (Nat.le_succ N), Mv.stay _ _ _ _ _ (Nat.le_succ N), h⟩
  · exact h.elim
end
end Sx

set_option linter.all false
namespace Sx
open Go
section
variable {P : Program} {ν : Nu} {N : Nat} {w : World} {H : Hp} {K : R → Hp → Nat → Prop}
theorem madeRow (hH : hpH ν N w H) {ks : List Kd} {xs : List (Tup ks)} {e : TypeId} {cap : Nat} {cs : List Value} (hk : 0 < ks.length) (hw : wfT ks xs) (hcs : cs.take (xs.length * ks.length) = flat ks xs) (hl : cs.length = cap * ks.length) (hn : xs.length ≤ cap) (hc : cap ≤ maxLen) {n : Nat} (hnx : n = xs.length)
    (h : K (.a (.f N n)) ((N, N, .row true ks xs) :: H) (N + 1)) : Goes ν N H w K (.slice (some ⟨w.heap.size, 0, none⟩) xs.length cap) (w.alloc (.cells cs.toArray e)) :=
  newRow hH none nofun (fun _ b hb => by cases hb; exact Nat.le_refl _) (go_alloc _ _ _) (fun l o _ hg b hb => heap_alloc_old w _ (fp_lt (hH.ob l o hg).2 hb)) hk hw
    (fresh_row (w := w) (flat_length ks xs) hcs hl hn hc w rfl) ⟨some ⟨w.heap.size, 0, none⟩, cap, rfl, ⟨hn, hc⟩, fun x hx => by cases hx; rfl, nofun⟩ hnx h
theorem makeSlice_sound (hH : hpH ν N w H) {t : TypeId} {l c : R} {u v : Value} (hl : relR ν N l u) (hc : relR ν N c v) (h : makeSlice P H N t l c fun r H => K r H (N + 1)) :
    ∃ z w', (Instr.makeSlice t u v).run P w = .ok z w' ∧ Goes ν N H w K z w' := by
  unfold makeSlice at h
  split at h
  · rename_i e k l k' c he
    have hu := elemT_some he
    split at h
    · rename_i ks hks
      obtain ⟨⟨h1, h2, h3, h4⟩, h⟩ := h
      obtain ⟨i, z, hi, hz, hsz, hk, hzc, hzs, hco⟩ := rowT_some hks
      obtain ⟨_, rfl⟩ := relI hl
      obtain ⟨_, rfl⟩ := relI hc
      rw [bytes_info hi, Int.mul_comm] at h4
      have hmx : (140737488355328 : Nat) ≤ maxLen := by decide
      have hr := run_make (P := P) w t e i z hu hi hz k k' l c h1 h2 (by omega) (by omega)
      refine ⟨_, _, hr, ?_⟩
      have hml : (madeCells z.cells (c.toNat * i.size)).toList = (List.replicate c.toNat z.cells.toList).flatten := by
        rw [← zeros_list]; unfold madeCells; rw [hsz, hzs]
      have := madeRow (K := K) (e := e) (cap := c.toNat) (cs := (madeCells z.cells (c.toNat * i.size)).toList) (xs := List.replicate l.toNat (zT ks)) hH hk (fun x hx => by rw [List.eq_of_mem_replicate hx]; exact wf_zero ks) (by
        rw [List.length_replicate, hml, flat_replicate, hzc]
        have e1 : c.toNat = l.toNat + (c.toNat - l.toNat) := by omega
        rw [e1, ← List.replicate_append_replicate, List.flatten_append]
        apply List.take_left'
        simp [leafs_length]) (by simp [madeCells, hsz]) (by simp; omega) (by omega) (n := l.toNat) (by simp) h
      simpa using this
    · exact h.elim
  · exact h.elim
theorem appendZ_sound (hH : hpH ν N w H) {t t' ty : TypeId} {s x : R} {u v : Value} (hs : relR ν N s u) (hx : relR ν N x v) (h : appendZ P H N t t' s x fun r H => K r H (N + 1)) :
    ∃ z w', (Builtin.append_ #[t, t'] ty #[u, v]).run P w = .ok z w' ∧ Goes ν N H w K z w' := by
  unfold appendZ at h
  split at h
  · rename_i e n he ht'
    have hu := elemT_some he
    have htn : P.underlying t' = some (.int .i64) := by
      unfold intT at ht'
      split at ht'
      · rename_i k hk
        cases ht'
        exact hk
      · cases ht'
    split at h
    · exact h.elim
    rename_i ks hks
    obtain ⟨i, z, hi, hz, hsz, hk, hzc, hzs, hco⟩ := rowT_some hks
    obtain ⟨⟨h0, h1, h2⟩, h⟩ := h
    cases hs
    obtain ⟨_, rfl⟩ := relI hx
    obtain ⟨m, rfl⟩ : ∃ m : Nat, n = m := ⟨n.toNat, by omega⟩
    rw [bytes_info hi] at h1
    have hmx : (140737488355328 : Nat) ≤ maxLen := by decide
    have h1' : m * i.bytes ≤ 140737488355328 := by
      rw [← Int.natCast_mul] at h1
      omega
    have hge := grownCap_ge w m 0 e
    have hcm := grownCap_le_maxLen w m 0 e (by omega)
    have hrun := Lib.run_append_nil_zeros (P := P) w t t' ty e i z .i64 .i64 hu htn hi hz m (by omega) (by omega) (by omega) (by omega)
    have hml : ∀ q, (Builtin.zeroCells z.cells q).toList = (List.replicate q z.cells.toList).flatten := fun q => by
      rw [← zeros_list]
      simp [Builtin.zeroCells]
    have hrow := fresh_row (w := w) (e := e) (size := ks.length) (n := m) (cap := grownCap w m 0 e) (cs := (Builtin.zeroCells z.cells m).toList ++ (Builtin.zeroCells z.cells (grownCap w m 0 e - m)).toList) (xs := flat ks (List.replicate m (zT ks))) (by rw [flat_length, List.length_replicate]) (by
        rw [flat_replicate, hml m, hzc]
        apply List.take_left'
        simp [leafs_length]) (by
        simp only [List.length_append, Array.length_toList, size_zeroCells, hzs]
        rw [← Nat.add_mul]
        congr 1
        omega) hge hcm w.drew rfl
    rw [show ((Builtin.zeroCells z.cells m).toList ++ (Builtin.zeroCells z.cells (grownCap w m 0 e - m)).toList).toArray = Builtin.zeroCells z.cells m ++ Builtin.zeroCells z.cells (grownCap w m 0 e - m) by rw [← Array.toList_inj]; simp] at hrow
    have hgr := grown_drew_alloc (w := w) (.cells (Builtin.zeroCells z.cells m ++ Builtin.zeroCells z.cells (grownCap w m 0 e - m)) e) none
    refine ⟨_, _, hrun, newRow (xs := List.replicate m (zT ks)) (n := (m : Int).toNat) hH none nofun (fun _ b hb => by cases hb; exact Nat.le_refl _) (Go1.grown hgr nofun) (fun l o _ hg b hb => hgr.block b (fp_lt (hH.ob l o hg).2 hb) nofun) hk (fun q hq => by rw [List.eq_of_mem_replicate hq]; exact wf_zero ks) (by rw [List.length_replicate]; exact hrow) ⟨some ⟨w.heap.size, 0, none⟩, grownCap w m 0 e, by rw [List.length_replicate], ⟨by rw [List.length_replicate]; exact hge, hcm⟩, fun x hx => by cases hx; rfl, nofun⟩ (by simp) (by simpa [goneH] using h)⟩
  · exact h.elim
theorem zlist_rel {asq : List A} {vs : List Value} (h : relAs ν N asq vs) : ∀ n, relAs ν N (List.replicate n asq).flatten (List.replicate n vs).flatten
  | 0 => trivial
  | n + 1 => by
    rw [List.replicate_succ, List.replicate_succ, List.flatten_cons, List.flatten_cons]
    exact relAs_append h (zlist_rel h n)
theorem fill_size {place : Nat → Option (Nat × Nat)} : ∀ {us : List (Nat × Value)} {vs vs' : Array Value}, Instr.fill place vs us = some vs' → vs'.size = vs.size
  | [], vs, vs', h => by cases h; rfl
  | (i, u) :: us, vs, vs', h => by
    rw [Instr.fill] at h
    split at h
    · cases h
    · split at h
      · cases h
      · rename_i off size heq hno
        rw [fill_size h, ← Array.foldl_toList, Array.toList_zipIdx]
        have := fold_setAt off u.cells.toList 0 vs
        have hl := congrArg List.length this
        rw [setAtV_length] at hl
        simpa using hl
theorem buildSlice_sound (hH : hpH ν N w H) {t : TypeId} {n : Nat} {ps : List (Nat × R)} {us : List (Nat × Value)} (hp : relParts ν N ps us) (h : buildSlice P H N t n ps fun r H => K r H (N + 1)) :
    ∃ z w', (Instr.buildSlice t n us.toArray).run P w = .ok z w' ∧ Goes ν N H w K z w' := by
  unfold buildSlice at h
  split at h
  · exact h.elim
  rename_i e he
  have hu := elemT_some he
  split at h
  · rename_i za _ hza hsm
    have hsm := Nat.le_of_ble_eq_true hsm
    obtain ⟨i, z, hi, hz, hzr⟩ := zatoms_some (ν := ν) (N := N) hza
    split at h
    · rename_i cs hf hck
      simp only [Bool.and_eq_true] at hck
      have hl1 := Nat.eq_of_beq_eq_true hck.1
      have hl2 : 1 ≤ za.length := Nat.le_of_ble_eq_true hck.2
      have hco : P.cellsOf e = i.size := by simp [Program.cellsOf, hi]
      have hzs : z.cells.size = i.size := by have := relAs_length hzr; rw [← hco, ← hl1, this]; simp
      have hsz2 : n * i.size = n * z.cells.size := by rw [hzs]
      have hrel0 : relAs ν N (List.replicate n za).flatten ((Array.range (n * i.size)).map fun j => z.cells[j % z.cells.size]!).toList := by
        rw [hsz2, zeros_list]; exact zlist_rel hzr n
      obtain ⟨vs', h1, h2⟩ := fill_sound hf hrel0 hp
      have hmx : (65536 : Nat) ≤ maxLen := by decide
      have hn : n ≤ 65536 := Nat.le_trans (Nat.le_mul_of_pos_right n (by omega)) hsm
      have hsize : vs'.size = n * i.size := by rw [fill_size h1]; simp
      have hrow := fresh_row (w := w) (e := e) (size := i.size) (n := n) (cap := n) (cs := vs'.toList) (xs := vs'.toList) (by simpa using hsize) (List.take_of_length_le (by simpa using Nat.le_of_eq hsize)) (by simpa using hsize) (Nat.le_refl n) (by omega) w rfl
      have hobj : obH (ν.setS N (.slice (some ⟨w.heap.size, 0, none⟩) n n) fun b => (Value.slice (some ⟨w.heap.size, 0, none⟩) n n).ownBlock = some b) (N + 1) (w.alloc (.cells vs' e)) N (Ob.crow (P.cellsOf e) n cs) :=
        ⟨by omega, fun b => by simp [Nu.setS], e, vs'.toList, by rw [hco]; simpa [Nu.setS] using hrow, relAs_mono (agree_setS _ _ _ _) (Nat.le_succ N) h2⟩
      have hg : Goes ν N H w K (.slice (some ⟨w.heap.size, 0, none⟩) n n) (w.alloc (.cells vs' e)) := newOwn hH none nofun (fun _ b hb => by cases hb; exact Nat.le_refl _) (go_alloc _ _ _) (fun l o _ hg b hb => heap_alloc_old w _ (fp_lt (hH.ob l o hg).2 hb))
        hobj ⟨_, n, rfl, ⟨Nat.le_refl n, by omega⟩, fun x hx => by cases hx; rfl, nofun⟩ h
      refine ⟨_, _, ?_, hg⟩
      have hs : (Go.sizeOf e).run P w = .ok i.size w := by simp [Go.sizeOf, typeInfo, hi]
      have hsm' : ¬ (16777216 < n * i.size) := by rw [← hco]; omega
      have hfn : (fun j => some (j * P.cellsOf e, P.cellsOf e) : Nat → Option (Nat × Nat)) = fun j => some (j * i.size, i.size) := by rw [hco]
      rw [hfn] at h1
      by_cases hz0 : n * i.size = 0
      · rw [hz0] at h1
        simp only [Array.range_zero', Array.map_empty] at h1
        simp [Instr.buildSlice, run_underlying hu, hs, hz0, Array.range_zero', h1, Go.newRow, newObj]
        rfl
      · simp [Instr.buildSlice, run_underlying hu, hs, hsm', hz0, zeroValue, typeInfo, hi, hz, h1, Go.newRow, newObj]
        rfl
    · exact h.elim
  · rename_i ks za hks hza hsm
    have hsm := Nat.le_of_ble_eq_true hsm
    obtain ⟨i, z, hi, hz, hsz, hk, hzc, hzs, hco⟩ := rowT_some hks
    obtain ⟨i', z', hi', hz', hzr⟩ := zatoms_some (ν := ν) (N := N) hza
    rw [hi] at hi'
    cases hi'
    rw [hz] at hz'
    cases hz'
    split at h
    · rename_i cs hf
      split at h
      · rename_i xs hgr
        have hsz2 : n * i.size = n * z.cells.size := by rw [hsz, hzs]
        have hrel0 : relAs ν N (List.replicate n za).flatten ((Array.range (n * i.size)).map fun j => z.cells[j % z.cells.size]!).toList := by
          rw [hsz2, zeros_list]; exact zlist_rel hzr n
        obtain ⟨vs', h1, h2⟩ := fill_sound hf hrel0 hp
        obtain ⟨h3, h4, h5⟩ := group_rel hgr h2
        have hsize : vs'.size = n * ks.length := by rw [fill_size h1]; simp [hsz]
        have hmx : (65536 : Nat) ≤ maxLen := by decide
        have hn : n ≤ 65536 := Nat.le_trans (Nat.le_mul_of_pos_right n (by omega)) hsm
        have hg := madeRow (K := K) (e := e) (cap := n) (cs := vs'.toList) (xs := xs) hH hk h4 (by rw [h5, h3, List.take_of_length_le]; rw [← h3]; simp [hsize]) (by simp [hsize]) (by omega) (by omega) (n := n) h5.symm h
        refine ⟨_, _, ?_, hg⟩
        have hs : (Go.sizeOf e).run P w = .ok i.size w := by simp [Go.sizeOf, typeInfo, hi]
        have hsm' : ¬ (16777216 < n * i.size) := by rw [hsz, ← hco]; omega
        have hfn : (fun j => some (j * P.cellsOf e, P.cellsOf e) : Nat → Option (Nat × Nat)) = fun j => some (j * i.size, i.size) := by rw [hco, hsz]
        rw [hfn] at h1
        by_cases hz0 : n * i.size = 0
        · rw [hz0] at h1
          simp only [Array.range_zero', Array.map_empty] at h1
          simp [Instr.buildSlice, run_underlying hu, hs, hz0, Array.range_zero', h1, Go.newRow, newObj, h5]
          rfl
        · simp [Instr.buildSlice, run_underlying hu, hs, hsm', hz0, zeroValue, typeInfo, hi, hz, h1, Go.newRow, newObj, h5]
          rfl
      · exact h.elim
    · exact h.elim
  · exact h.elim
theorem freeze_other {a : Addr} {n k : Nat} (h : k ≠ a.block) : (w.freeze a n).heap[k]? = w.heap[k]? := by
  unfold World.freeze
  split
  · rfl
  · simp [Array.getElem?_modify, Ne.symm h]
theorem freeze_cell {a b : Addr} {n : Nat} : (w.freeze a n).cell? b = w.cell? b := by
  unfold World.freeze
  split
  · rfl
  · simp only [World.cell?, Array.getElem?_modify]
    by_cases h : a.block = b.block
    · rw [if_pos h]
      cases w.heap[b.block]? with
      | none => rfl
      | some o => cases o <;> rfl
    · rw [if_neg h]
theorem freeze_size {a : Addr} {n : Nat} : (w.freeze a n).heap.size = w.heap.size := by unfold World.freeze; split <;> simp
theorem freeze_same {a : Addr} {n : Nat} : (w.freeze a n).os = w.os ∧ (w.freeze a n).tape = w.tape ∧ (w.freeze a n).output = w.output := by unfold World.freeze; split <;> exact ⟨rfl, rfl, rfl⟩
theorem u8_back {xs : List Int} (h : okS xs) : ((toBA xs).data.map fun b => Value.int .u8 b.toNat) = (xs.map (Value.int .u8)).toArray := by
  rw [← Array.toList_inj]
  simp only [toBA, Array.toList_map, List.toList_toArray, List.map_map]
  refine List.map_congr_left fun x hx => ?_
  have := h x hx
  simp only [Function.comp]
  congr 1
  simp only [UInt8.toNat_ofNat']
  omega
theorem toBytes_run {xs : List Int} (hx : okS xs) (hl : xs.length ≤ 140737488355328) {e : TypeId} : ∃ w' cap, (Conv.stringToBytes e (toBA xs)).run P w = .ok (.slice (some ⟨w.heap.size, 0, none⟩) xs.length cap) w' ∧ xs.length ≤ cap ∧ cap ≤ maxLen ∧
    Go1 (fun _ => False) w w' ∧ ∀ j v, (flat [.i .u8] xs)[j]? = some v → w'.cell? ⟨w.heap.size, j, none⟩ = some v := by
  have hmx : (140737488355328 : Nat) ≤ maxLen := by decide
  have hge := grownCap_ge w xs.length 0 e
  have hle := grownCap_le_maxLen w xs.length 0 e (by omega)
  let cs : Array Value := (xs.map (Value.int .u8)).toArray ++ Array.replicate (grownCap w xs.length 0 e - xs.length) (.int .u8 0)
  refine ⟨(w.drew.alloc (.cells cs e)).freeze ⟨w.heap.size, cs.size, none⟩ 1, grownCap w xs.length 0 e, ?_, hge, hle, ?_, fun j v hv => ?_⟩
  · have hsh : (w.drew.alloc (.cells cs e)).shape? w.heap.size = some (e, cs.size) := by
      have := heap_alloc_new w.drew (.cells cs e)
      simp only [World.shape?]
      rw [show w.heap.size = w.drew.heap.size from rfl, this]
    simp only [Conv.stringToBytes, choose, Sem.run_bind, Go.newRow, newObj, markStringish, shape, Go.freeze, toBA_size, u8_back hx]
    simp [Sem.run, Question.forced]
    simp only [cs, grownCap] at hsh
    rw [hsh]
    rfl
  · obtain ⟨f1, f2, f3⟩ := freeze_same (w := w.drew.alloc (.cells cs e)) (a := ⟨w.heap.size, cs.size, none⟩) (n := 1)
    refine ⟨f1, f2, f3, by rw [freeze_size]; simp, fun k hk _ => ?_⟩
    rw [freeze_other (by show k ≠ w.heap.size; omega)]
    exact heap_alloc_old w.drew _ hk
  · rw [freeze_cell]
    have := heap_alloc_new w.drew (.cells cs e)
    rw [nums_of] at hv
    simp only [World.cell?]
    rw [show w.heap.size = w.drew.heap.size from rfl, this]
    have hj : j < (xs.map (Value.int .u8)).length := by
      rcases Nat.lt_or_ge j (xs.map (Value.int .u8)).length with h | h
      · exact h
      · rw [List.getElem?_eq_none h] at hv; cases hv
    simp only [cs, Option.isSome_none, Bool.false_eq_true, if_false]
    rw [Array.getElem?_append_left (by simpa using hj)]
    simpa using hv
theorem newRo (hH : hpH ν N w H) {ks : List Kd} {xs : List (Tup ks)} {v : Value} {w' : World} (hgo : Go1 (fun _ => False) w w') (hk : 0 < ks.length) (hw : wfT ks xs) {base : Option Addr} {cap : Nat} (hv : v = .slice base xs.length cap) (hok : okSl base xs.length cap)
    (hb : ∀ b, v.ownBlock = some b → w.heap.size ≤ b) (hcell : ∀ j u, (flat ks xs)[j]? = some u → ∃ a, base = some a ∧ w'.cell? (a.add j) = some u) {n : Nat} (hn : n = xs.length)
    (h : K (.a (.f N n)) ((N, N, .row false ks xs) :: H) (N + 1)) : Goes ν N H w K v w' := by
  subst hn
  have hge : ∀ l o, l ≠ N → hget ((N, N, Ob.row false ks xs) :: H) l = some o → hget H l = some o := fun l o hl hg => by rwa [hget_cons, if_neg (Ne.symm hl)] at hg
  refine ⟨ν.setS N v (fun b => v.ownBlock = some b ∧ xs ≠ []), N + 1, _, .a (.f N xs.length), (show relA _ _ (.f N xs.length) _ from ⟨Nat.lt_succ_self N, by simp [Nu.setS], base, cap, by simp [Nu.setS, hv], hok⟩), ?_, ⟨hgo.mono nofun, ?_, agree_setS _ _ _ _, Nat.le_succ N, ?_, mono_cons⟩, h⟩
  · refine hpH_upd hH (fun l => l ≠ N) (st_cons hH) (Nat.le_succ N) (agree_setS _ _ _ _) hgo.size ?_ ?_ ?_ ?_ ?_
    · exact fun l o hl hg => ⟨hge l o hl hg, by simp [Nu.setS, hl]⟩
    · exact fun l o hl hg b hb => hgo.block b (fp_lt (hH.ob l o hg).2 hb) nofun
    · intro l o hl hg
      have hl : l = N := Classical.not_not.1 hl
      subst hl
      rw [hget_cons, if_pos rfl] at hg
      cases hg
      exact ⟨Nat.lt_succ_self _, hk, hw, fun b => by simp [Nu.setS], base, cap, by simp [Nu.setS, hv], hok, hcell⟩
    · intro l o hl hg b hbb
      have hl : l = N := Classical.not_not.1 hl
      subst hl
      rw [hget_cons, if_pos rfl] at hg
      cases hg
      simp only [fpO, Nu.setS, if_pos] at hbb
      exact .inl (hb b hbb.1)
    · intro l l' o o' hne hl hl'
      exact absurd ((Classical.not_not.1 hl).trans (Classical.not_not.1 hl').symm) hne
  · rintro b ⟨l, o, hg, ho, hbb⟩
    by_cases hl : l = N
    · subst hl
      rw [hget_cons, if_pos rfl] at hg
      cases hg
      cases ho
    · simp only [Nu.setS, if_neg hl] at hbb
      exact .inl ⟨l, o, hge l o hl hg, ho, hbb⟩
  · intro l o hg _
    have hl : l ≠ N := Nat.ne_of_lt (hH.ob l o hg).1
    exact ⟨by rw [hget_cons, if_neg (Ne.symm hl)]; exact hg, by simp [Nu.setS, hl], fun b hb => hgo.block b (fp_lt (hH.ob l o hg).2 hb) nofun⟩
theorem toBytes_sound (hH : hpH ν N w H) {e : TypeId} {x : R} {u : Value} (hx : relR ν N x u) (h : toBytes H N x fun r H => K r H (N + 1)) :
    ∃ s, u = .string s ∧ ∃ z w', (Conv.stringToBytes e s).run P w = .ok z w' ∧ Goes ν N H w K z w' := by
  unfold toBytes at h
  split at h
  · rename_i xs
    obtain ⟨hl, h⟩ := h
    obtain ⟨hs, rfl⟩ := hx
    obtain ⟨w', cap, h1, h2, h3, h4, h5⟩ := toBytes_run (P := P) (w := w) hs hl (e := e)
    refine ⟨toBA xs, rfl, _, w', h1, newRo (ks := [.i .u8]) (xs := xs) hH h4 (by simp) (fun x hx l hl => ?_) rfl ⟨⟨h2, h3⟩, fun x hx => by cases hx; rfl, nofun⟩ (fun b hb => by cases hb; exact Nat.le_refl _) (fun j v hv => ⟨_, rfl, by rw [Addr.add_mid]; simpa using h5 j v hv⟩) rfl h⟩
    simp only [leafs, Kd.leaf, List.mem_singleton] at hl
    subst hl
    have := hs x hx
    show lo .u8 ≤ x ∧ x ≤ hi .u8
    simpa [lo, hi] using this
  · exact h.elim
theorem asText_sound (hH : hpH ν N w H) {t : TypeId} {x : R} {u : Value} (hx : relR ν N x u) (h : asText P H N t x fun r H => K r H (N + 1)) :
    ∃ z w', (Go.convert t t u).run P w = .ok z w' ∧ Goes ν N H w K z w' := by
  unfold asText at h
  split at h
  · exact h.elim
  rename_i e he
  have hu := elemT_some he
  split at h
  · rename_i l n hue
    obtain ⟨hl, rfl, base, cap, hsv, hok⟩ := hx
    split at h
    · rename_i ks xs hg
      obtain ⟨hn, h⟩ := h
      obtain ⟨hlt, hk, hw, hfp, e0, hown⟩ := hH.ob _ _ hg
      have hcells := (row_cells (hH.ob _ _ hg).2).2.2
      rcases hown.2 with ⟨q1, q2⟩ | ⟨g, cap2, cur, q1, q2, q3, q4, q5, q6, q7⟩
      · rw [hsv] at q1
        obtain ⟨_, q3, _⟩ := slice_inj q1
        omega
      rw [hsv] at q1
      obtain ⟨rfl, hxn, rfl⟩ := slice_inj q1
      subst hxn
      have hbk : (ν.sv l).ownBlock = some g := by rw [hsv]; rfl
      have hgl : g < w.heap.size := by
        rcases Nat.lt_or_ge g w.heap.size with h' | h'
        · exact h'
        · rw [Array.getElem?_eq_none h'] at q3; cases q3
      have hsh : w.shape? g = some (e0, cur.size) := by unfold World.shape?; rw [q3]
      have hrun : (Go.convert t t (ν.sv l)).run P w = .ok (ν.sv l) (w.freeze ⟨g, cur.size, none⟩ 1) := by
        rw [hsv]
        simp [Go.convert, run_underlying hu, run_underlying hue, markStringish, hsh]
      have hfz : ∀ k, (w.freeze ⟨g, cur.size, none⟩ 1).heap[k]? = if k = g then some (.cells cur e0 (cur.size, cur.size + 1)) else w.heap[k]? := by
        intro k
        unfold World.freeze
        rw [if_neg (by decide)]
        simp only [Array.getElem?_modify]
        by_cases hk2 : k = g
        · subst hk2
          rw [if_pos rfl, if_pos rfl, q3]
          rfl
        · rw [if_neg (Ne.symm hk2), if_neg hk2]
      have hsz : (w.freeze ⟨g, cur.size, none⟩ 1).heap.size = w.heap.size := by
        unfold World.freeze
        rw [if_neg (by decide)]
        simp
      have hother : ∀ k, k ≠ g → (w.freeze ⟨g, cur.size, none⟩ 1).heap[k]? = w.heap[k]? := fun k hk2 => by rw [hfz, if_neg hk2]
      have hcell : ∀ a v, w.cell? a = some v → (w.freeze ⟨g, cur.size, none⟩ 1).cell? a = some v := by
        intro a v ha
        by_cases hk2 : a.block = g
        · unfold World.cell? at ha ⊢
          rw [hfz, if_pos hk2]
          rw [hk2, q3] at ha
          exact ha
        · unfold World.cell? at ha ⊢
          rw [hother _ hk2]
          exact ha
      have hgo : Go1 (own ν H) w (w.freeze ⟨g, cur.size, none⟩ 1) := by
        refine ⟨by unfold World.freeze; rw [if_neg (by decide)], by unfold World.freeze; rw [if_neg (by decide)], by unfold World.freeze; rw [if_neg (by decide)], by rw [hsz]; exact Nat.le_refl _, fun k _ hno => hother k fun e => hno ?_⟩
        subst e
        exact ⟨l, _, hg, rfl, (hfp _).2 hbk⟩
      refine ⟨_, _, hrun, ?_⟩
      have hge : ∀ m o, hget ((N, N, Ob.row false ks xs) :: hset H l N .gone) m = some o → (m = N ∧ o = .row false ks xs) ∨ (m ≠ N ∧ m = l ∧ o = .gone) ∨ (m ≠ N ∧ m ≠ l ∧ hget H m = some o) := by
        intro m o hm
        rw [hget_cons] at hm
        split at hm
        · rename_i e
          cases hm
          exact .inl ⟨e.symm, rfl⟩
        · rename_i e
          rw [hget_hset] at hm
          split at hm
          · rename_i e2
            cases hm
            exact .inr (.inl ⟨Ne.symm e, e2.symm, rfl⟩)
          · rename_i e2
            exact .inr (.inr ⟨Ne.symm e, Ne.symm e2, hm⟩)
      have hstE : ∀ m, hst ((N, N, Ob.row false ks xs) :: hset H l N .gone) m = if N = m then N else if l = m then N else hst H m := by
        intro m
        rw [hst_cons, hst_hset]
      have hgb : ∀ m o, m ≠ l → hget H m = some o → ∀ b, fpO ν m o b → b ≠ g := fun m o hm hgm b hb e => by
        subst e
        exact hH.ap m l o _ hm hgm hg (.inr rfl) b hb ((hfp _).2 hbk)
      refine ⟨ν.setS N (ν.sv l) (fun b => (ν.sv l).ownBlock = some b ∧ xs ≠ []), N + 1, _, .a (.f N xs.length), (show relA _ _ (.f N xs.length) _ from ⟨Nat.lt_succ_self N, by simp [Nu.setS], some ⟨g, 0, none⟩, cap, by simp [Nu.setS, hsv], hok⟩), ?_, ⟨hgo, ?_, agree_setS _ _ _ _, Nat.le_succ N, ?_, ?_⟩, h⟩
      · refine hpH_upd hH (fun m => m ≠ N ∧ m ≠ l) ?_ (Nat.le_succ N) (agree_setS _ _ _ _) (by rw [hsz]; exact Nat.le_refl _) ?_ ?_ ?_ ?_ ?_
        · intro m o hm
          rw [hstE]
          rcases hge m o hm with ⟨rfl, _⟩ | ⟨h1, rfl, _⟩ | ⟨h1, h2, h3⟩
          · rw [if_pos rfl]; omega
          · rw [if_neg (Ne.symm h1), if_pos rfl]; omega
          · rw [if_neg (Ne.symm h1), if_neg (Ne.symm h2)]
            have := hH.st m o h3
            omega
        · intro m o hm hgm
          rcases hge m o hgm with ⟨rfl, _⟩ | ⟨h1, rfl, _⟩ | ⟨h1, h2, h3⟩
          · exact absurd rfl hm.1
          · exact absurd rfl hm.2
          · exact ⟨h3, by simp [Nu.setS, h1]⟩
        · intro m o hm hgm b hb
          exact hother b (hgb m o hm.2 hgm b hb)
        · intro m o hm hgm
          rcases hge m o hgm with ⟨rfl, rfl⟩ | ⟨h1, rfl, rfl⟩ | ⟨h1, h2, h3⟩
          · refine ⟨Nat.lt_succ_self _, hk, hw, fun b => by simp [Nu.setS], some ⟨g, 0, none⟩, cap, by simp [Nu.setS, hsv], hok, fun j v hv => ?_⟩
            obtain ⟨base3, cap3, p1, _, p2⟩ := hcells
            rw [hsv] at p1
            obtain ⟨rfl, _, _⟩ := slice_inj p1
            obtain ⟨a, pa, pc⟩ := p2 j v hv
            exact ⟨a, pa, hcell _ _ pc⟩
          · exact ⟨by omega, trivial⟩
          · exact absurd ⟨h1, h2⟩ hm
        · intro m o hm hgm b hb
          rcases hge m o hgm with ⟨rfl, rfl⟩ | ⟨h1, rfl, rfl⟩ | ⟨h1, h2, h3⟩
          · simp only [fpO, Nu.setS, if_pos] at hb
            exact .inr ⟨l, _, fun h => h.2 rfl, hg, rfl, (hfp _).2 hb.1⟩
          · exact hb.elim
          · exact absurd ⟨h1, h2⟩ hm
        · intro m m' o o' hne hm hm' hgm hgm' _ b hb hb'
          rcases hge m o hgm with ⟨rfl, rfl⟩ | ⟨h1, rfl, rfl⟩ | ⟨h1, h2, h3⟩
          · rcases hge m' o' hgm' with ⟨rfl, rfl⟩ | ⟨k1, rfl, rfl⟩ | ⟨k1, k2, k3⟩
            · exact hne rfl
            · exact hb'.elim
            · exact hm' ⟨k1, k2⟩
          · exact hb.elim
          · exact hm ⟨h1, h2⟩
      · rintro b ⟨m, o, hgm, ho, hb⟩
        rcases hge m o hgm with ⟨rfl, rfl⟩ | ⟨h1, rfl, rfl⟩ | ⟨h1, h2, h3⟩
        · cases ho
        · cases ho
        · simp only [Nu.setS, if_neg h1] at hb
          exact .inl ⟨m, o, h3, ho, hb⟩
      · intro m o hgm he2
        have hmN : m ≠ N := Nat.ne_of_lt (hH.ob m o hgm).1
        rw [hstE, if_neg (Ne.symm hmN)] at he2
        have hstm := hH.st m o hgm
        by_cases hml : m = l
        · subst hml
          rw [if_pos rfl] at he2
          omega
        · refine ⟨by rw [hget_cons, if_neg (Ne.symm hmN), hget_hset, if_neg (Ne.symm hml)]; exact hgm, by simp [Nu.setS, hmN], fun b hb => hother b (hgb m o hml hgm b hb)⟩
      · intro m
        rw [hstE]
        split
        · exact .inr (Nat.le_refl _)
        · split
          · exact .inr (Nat.le_refl _)
          · exact .inl rfl
    · exact h.elim
  · exact h.elim
theorem wp_of_run {o : Oper} {a : Act} {z : Value} {w' : World} {next : Act → World → Prop} {Q : Exit → Act → World → Prop} (h : (execOp a.eval o).run P w = .ok (.value z) w') (hn : next (a.put o.dst z) w') : o.wp P a w next Q := by
  unfold Oper.wp; rw [h]; exact hn
theorem wp_of_skip {o : Oper} {a : Act} {w' : World} {next : Act → World → Prop} {Q : Exit → Act → World → Prop} (h : (execOp a.eval o).run P w = .ok .skip w') (hn : next (a.put o.dst undef) w') : o.wp P a w next Q := by
  unfold Oper.wp; rw [h]; exact hn
end
end Sx
end
