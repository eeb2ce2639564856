import Derived.ChangeArms
import Derived.DataReads
import Derived.WideShapes
import Derived.Laws.BitsAllLaws
import Derived.IntWalk
import Derived.Test.YthnhbnakpmkppaaGreatProg
import Derived.ProofKit
import Derived.Test.YthnhbnakpmkppaaGreatMgTableGoes4
section
set_option linter.all false
namespace Sx
open Go
def kdOf : L → Kd
  | .b _ => .b
  | .i k _ => .i k
  | .s _ => .s
def flatF (f : TypeId → Option (List Kd)) (size : TypeId → Nat) : List Field → Nat → Option (List Kd)
  | [], _ => some []
  | fd :: fs, o => match f fd.type with
    | some ks => match Nat.beq fd.offset o && Nat.beq (size fd.type) ks.length, flatF f size fs (o + ks.length) with
      | true, some ks' => some (ks ++ ks')
      | _, _ => none
    | none => none
def flatK (P : Program) : Nat → TypeId → Option (List Kd)
  | 0, _ => none
  | n + 1, t => match P.underlying t with
    | some .bool => some [.b]
    | some (.int k) => some [.i k]
    | some .string => some [.s]
    | some (.struct fs) => match flatF (flatK P n) P.cellsOf fs.toList 0 with
      | some ks => match Nat.beq ks.length (P.cellsOf t) with
        | true => some ks
        | false => none
      | none => none
    | _ => none
section
variable {H : Type} {enc : TypeId × Value → H} {P : Program} {w : World} {base : Nat} {sp : Nat → Bool} {held : Bool}
theorem wf_int {k : IntKind} {n : Int} (h : (Lit.int k n).wf = true) : lo k ≤ n ∧ n ≤ hi k := by
  simp only [Lit.wf, Bool.and_eq_true, decide_eq_true_eq] at h
  cases k <;> exact h
theorem flatF_open {f : TypeId → Option (List Kd)} {tr : TypeId → List Value → Option (DataW H × List MemPlace)} {cs : List Value} (hf : ∀ t ks cs y, f t = some ks → tr t cs = some y → ∃ ls : List L, cs = ls.map L.val ∧ ls.map kdOf = ks ∧ ∀ l ∈ ls, l.wf) :
    ∀ (fs : List Field) (o : Nat) (ks : List Kd), flatF f P.cellsOf fs o = some ks → (∀ fd ∈ fs, ∃ y, tr fd.type ((cs.drop fd.offset).take (P.cellsOf fd.type)) = some y) → ∃ ls : List L, (cs.drop o).take ks.length = ls.map L.val ∧ ls.map kdOf = ks ∧ ∀ l ∈ ls, l.wf
  | [], o, ks, h, _ => by
    simp only [flatF, Option.some.injEq] at h
    subst h
    exact ⟨[], by simp, rfl, by simp⟩
  | fd :: fs, o, ks, h, hx => by
    simp only [flatF] at h
    split at h
    · rename_i k1 h1
      split at h
      · rename_i k2 hb h2
        simp only [Bool.and_eq_true] at hb
        have e1 := Nat.eq_of_beq_eq_true hb.1
        have e2 := Nat.eq_of_beq_eq_true hb.2
        cases h
        obtain ⟨y, hy⟩ := hx fd (by simp)
        obtain ⟨l1, p1, p2, p3⟩ := hf _ _ _ _ h1 hy
        obtain ⟨l2, q1, q2, q3⟩ := flatF_open hf fs _ _ h2 fun g hg => hx g (by simp [hg])
        refine ⟨l1 ++ l2, ?_, by simp [p2, q2], fun l hl => (List.mem_append.1 hl).elim (p3 l) (q3 l)⟩
        rw [e1, e2] at p1
        rw [List.length_append, List.take_add, List.map_append, p1, List.drop_drop, q1]
      · cases h
    · cases h
theorem open_flat : ∀ (n : Nat) (t : TypeId) (ks : List Kd) (fuel : Nat) (cs : List Value) (x : DataW H × List MemPlace), flatK P n t = some ks → DataW.trod enc P w base sp held fuel t cs = some x → ∃ ls : List L, cs = ls.map L.val ∧ ls.map kdOf = ks ∧ ∀ l ∈ ls, l.wf
  | 0, _, _, _, _, _, h, _ => by simp [flatK] at h
  | n + 1, t, ks, fuel, cs, x, h, hx => by
    simp only [flatK] at h
    split at h
    · rename_i ht
      cases h
      obtain ⟨b, rfl, _⟩ := DataW.trod_bool ht hx
      exact ⟨[.b b], rfl, rfl, by simp [L.wf]⟩
    · rename_i k ht
      cases h
      obtain ⟨m, rfl, _, hw⟩ := DataW.trod_int ht hx
      exact ⟨[.i k m], rfl, rfl, by simpa [L.wf] using wf_int hw⟩
    · rename_i ht
      cases h
      obtain ⟨s, rfl, _, _⟩ := DataW.trod_string ht hx
      refine ⟨[.s (s.data.toList.map fun c => (c.toNat : Int))], by simp [L.val, toBA_bytes], rfl, ?_⟩
      intro l hl
      cases List.mem_singleton.1 hl
      exact okS_bytes s
    · rename_i fs ht
      split at h
      · rename_i ks' hk
        split at h
        · rename_i hb
          have hb := Nat.eq_of_beq_eq_true hb
          cases h
          obtain ⟨xs, m, rfl, _, hl, hn, hf⟩ := DataW.trod_struct ht hx
          obtain ⟨ls, p1, p2, p3⟩ := flatF_open (P := P) (cs := cs) (tr := fun t cs => DataW.trod enc P w base sp held m t cs) (fun t ks cs y => open_flat n t ks m cs y) fs.toList 0 ks hk (fun fd hfd => by
            obtain ⟨i, hi, e⟩ := List.getElem_of_mem hfd
            have hi' : i < fs.size := by simpa using hi
            have := hf i fd (by rw [Array.getElem?_eq_getElem hi']; congr 1)
            rw [this, List.getElem?_eq_getElem (by omega)]
            exact ⟨_, rfl⟩)
          refine ⟨ls, ?_, p2, p3⟩
          rw [← p1, List.drop_zero, hb, ← hl, List.take_length]
        · cases h
      · cases h
    · cases h
theorem addr_add {a : Addr} (h : a.spot = none) (m n : Nat) : (a.add m).add n = a.add (m + n) := by
  obtain ⟨b, o, sp⟩ := a
  simp only at h
  subst h
  unfold Addr.add
  by_cases h1 : m = 0
  · subst h1; simp
  · by_cases h2 : n = 0
    · subst h2; simp
    · simp [h1, h2, Nat.add_assoc]
theorem tup_of : ∀ (ks : List Kd) (ls : List L), ls.map kdOf = ks → ∃ x : Tup ks, leafs ks x = ls
  | [], [], _ => ⟨(), rfl⟩
  | [k], [l], h => by
    simp only [List.map_cons, List.map_nil, List.cons.injEq, and_true] at h
    subst h
    cases l with
    | b x => exact ⟨x, rfl⟩
    | i k n => exact ⟨n, rfl⟩
    | s xs => exact ⟨xs, rfl⟩
  | k :: k' :: ks, l :: ls, h => by
    simp only [List.map_cons, List.cons.injEq] at h
    obtain ⟨h1, h2⟩ := h
    obtain ⟨y, hy⟩ := tup_of (k' :: ks) ls h2
    subst h1
    cases l with
    | b x => exact ⟨(x, y), by simp [leafs, hy, kdOf, Kd.leaf]⟩
    | i k n => exact ⟨(n, y), by simp [leafs, hy, kdOf, Kd.leaf]⟩
    | s xs => exact ⟨(xs, y), by simp [leafs, hy, kdOf, Kd.leaf]⟩
  | [], _ :: _, h => by simp at h
  | _ :: _, [], h => by simp at h
  | [_], _ :: _ :: _, h => by simp at h
theorem list_of {α : Type} {p : Nat → α → Prop} : ∀ (n : Nat), (∀ i, i < n → ∃ a, p i a) → ∃ xs : List α, xs.length = n ∧ ∀ i x, xs[i]? = some x → p i x
  | 0, _ => ⟨[], rfl, by simp⟩
  | n + 1, h => by
    obtain ⟨xs, h1, h2⟩ := list_of n fun i hi => h i (by omega)
    obtain ⟨a, ha⟩ := h n (by omega)
    refine ⟨xs ++ [a], by simp [h1], fun i x hx => ?_⟩
    rw [List.getElem?_append] at hx
    split at hx
    · exact h2 i x hx
    · rename_i hi
      have : i = n := by
        rcases Nat.lt_or_ge i (n + 1) with h | h
        · omega
        · rw [List.getElem?_eq_none (by simp; omega)] at hx; cases hx
      subst this
      rw [h1, Nat.sub_self] at hx
      cases hx
      exact ha
theorem open_rowF {t e : TypeId} {r : Reach} {b0 : Nat} {n : Nat} {ks : List Kd} {v : Value} {d : DataW H} {ps : List MemPlace} (ht : P.underlying t = some (.slice e)) (hk : flatK P n e = some ks) (hc : P.cellsOf e = ks.length) (hpos : 0 < ks.length)
    (hv : Value.okWide P w r b0 t v) (hd : DataW.Trod enc P w base sp held t v d ps) : ∃ xs : List (Tup ks), wfT ks xs ∧ RoOK w v (.row false ks xs) := by
  obtain ⟨a, len, cap, rfl⟩ := WideShapes.okWide_slice ht hv
  have hvc : Cell.ok P w r b0 t (.slice a len cap) := by
    simp only [Value.okWide, ht, Cell.okWide] at hv
    exact hv
  obtain ⟨fuel, hd⟩ := hd
  rcases DataW.trod_slice ht hd with ⟨h0, _⟩ | ⟨a', len', cap', elems, rest, m, _, hcs, _, _, hl, hm, hlen, hel, _⟩
  · simp [Value.cells] at h0
    obtain ⟨rfl, rfl, rfl⟩ := h0
    exact ⟨[], fun x hx => by simp at hx, ks, [], none, 0, rfl, hpos, fun x hx => by simp at hx, rfl, ⟨⟨Nat.le_refl _, Nat.zero_le _⟩, nofun, fun _ => rfl⟩, fun j u hj => by simp [flat] at hj⟩
  · simp [Value.cells] at hcs
    obtain ⟨rfl, rfl, rfl⟩ := hcs
    have hspot : a'.spot = none := by
      simp only [Cell.ok, ht] at hvc
      exact hvc.2.2.2.1
    obtain ⟨xs, x1, x2⟩ := list_of (p := fun i (x : Tup ks) => (∀ l ∈ leafs ks x, l.wf) ∧ ∀ j, j < ks.length → w.cell? ((a'.add (i * ks.length)).add j) = ((leafs ks x).map L.val)[j]?) len fun i hi => by
      have h1 := hel i hi
      rw [List.getElem?_eq_getElem (by omega), Option.bind_eq_some_iff] at h1
      obtain ⟨cs, hcs, htr⟩ := h1
      obtain ⟨ls, p1, p2, p3⟩ := open_flat n e ks _ _ _ hk htr
      obtain ⟨x, hx⟩ := tup_of ks ls p2
      obtain ⟨_, _, q3⟩ := World.cells?_some hcs
      refine ⟨x, by rw [hx]; exact p3, fun j hj => ?_⟩
      rw [hc] at q3
      rw [q3 j hj, p1, hx]
    have hw : wfT ks xs := fun x hx l hl => by
      obtain ⟨i, hi, e⟩ := List.getElem_of_mem hx
      exact (x2 i x (by rw [List.getElem?_eq_getElem hi, e])).1 l hl
    refine ⟨xs, hw, ks, xs, some a', cap, rfl, hpos, hw, by rw [x1], ⟨⟨by omega, hm⟩, fun x hx => by cases hx; exact hspot, nofun⟩, fun j u hj => ⟨a', rfl, ?_⟩⟩
    have hjl : j < xs.length * ks.length := by
      have := (List.getElem?_eq_some_iff.1 hj).1
      rwa [flat_length] at this
    have hi : j / ks.length < xs.length := Nat.div_lt_of_lt_mul (by rwa [Nat.mul_comm])
    have hr : j % ks.length < ks.length := Nat.mod_lt _ hpos
    have hje : j / ks.length * ks.length + j % ks.length = j := by rw [Nat.mul_comm]; exact Nat.div_add_mod _ _
    have h2 := flat_get ks xs (j / ks.length) (j % ks.length) hi hr
    rw [hje, hj] at h2
    have h3 := (x2 (j / ks.length) _ (List.getElem?_eq_getElem hi)).2 (j % ks.length) hr
    have e : (a'.add (j / ks.length * ks.length)).add (j % ks.length) = a'.add j := by
      rw [addr_add hspot, hje]
    rw [e] at h3
    rw [h3, h2]
    rw [List.getD_eq_getElem?_getD, List.getElem?_eq_getElem hi]
    rfl
theorem open_agg {t : TypeId} {fs : Array Field} {r : Reach} {b0 : Nat} {n : Nat} {ks : List Kd} {v : Value} {d : DataW H} {ps : List MemPlace} (ht : P.underlying t = some (.struct fs)) (hk : flatK P n t = some ks)
    (hv : Value.okWide P w r b0 t v) (hd : DataW.Trod enc P w base sp held t v d ps) : ∃ x : Tup ks, v = .agg ((leafs ks x).map L.val).toArray ∧ ∀ l ∈ leafs ks x, l.wf := by
  simp only [Value.okWide, ht] at hv
  obtain ⟨cs, rfl, _, _⟩ := hv
  obtain ⟨fuel, hd⟩ := hd
  obtain ⟨ls, p1, p2, p3⟩ := open_flat n t ks _ _ _ hk hd
  obtain ⟨x, hx⟩ := tup_of ks ls p2
  refine ⟨x, ?_, by rw [hx]; exact p3⟩
  have : cs.toList = ls.map L.val := by simpa [Value.cells] using p1
  rw [hx, ← this]
theorem open_scal {t : TypeId} {k : Kd} {v : Value} {d : DataW H} {ps : List MemPlace} (hv1 : v.cells = #[v]) (hk : flatK P 1 t = some [k]) (hd : DataW.Trod enc P w base sp held t v d ps) : ∃ l : L, v = l.val ∧ kdOf l = k ∧ l.wf := by
  obtain ⟨fuel, hd⟩ := hd
  obtain ⟨ls, p1, p2, p3⟩ := open_flat 1 t [k] _ _ _ hk hd
  cases ls with
  | nil => simp at p2
  | cons l ls =>
    cases ls with
    | nil =>
      refine ⟨l, ?_, by simpa using p2, p3 l (by simp)⟩
      rw [hv1] at p1
      simpa using p1
    | cons _ _ => simp at p2
theorem relAs_leafs {ν : Nu} {N : Nat} : ∀ (ls : List L), (∀ l ∈ ls, l.wf) → relAs ν N (ls.map A.l) (ls.map L.val)
  | [], _ => trivial
  | l :: ls, h => ⟨⟨⟨h l (by simp), rfl⟩, by cases l <;> rfl⟩, relAs_leafs ls fun k hk => h k (by simp [hk])⟩
theorem rel_agg {ν : Nu} {N : Nat} {ks : List Kd} {x : Tup ks} (h : ∀ l ∈ leafs ks x, l.wf) : relV ν N (.agg ((leafs ks x).map A.l)) (.agg ((leafs ks x).map L.val).toArray) := ⟨_, rfl, relAs_leafs _ h⟩
end
end Sx
end
section
set_option linter.all false
namespace Sx
open Go
structure Pk where
  M : Type
  Z : Type
  φ : M → Z → Prop
  obs : Z → List Ob
def rootB : List Ob → Bool
  | .cells _ :: os => os.all ownOb
  | _ => false
def absR (k : Pk) (m : k.M) : World → Nat → (Nat → Prop) → Prop := fun w b F => ∃ z, k.φ m z ∧ rootB (k.obs z) = true ∧ ∃ ν : Nu, ν.blk 0 = b ∧ hpH ν (k.obs z).length w (heap0 (k.obs z)) ∧ ∀ l o x, (k.obs z)[l]? = some o → ν.fp l x → F x
@[reducible] def Pk.ob (k : Pk) (m : k.M) : Ob := .abs (absR k m)
def pkH (r : Rn) (p nx : Nat) (o : Ob) (H : Hp) : Hp := hset (r.foldr (fun q H => match tgt q.2 with
  | some t => hset H t nx .gone
  | none => H) H) p nx o
def lives (H : Hp) (a : A) : Bool := match tgt a with
  | some t => (hget H t).isSome
  | none => true
def isAbs (a : World → Nat → (Nat → Prop) → Prop) : Option Ob → Prop
  | some (.abs b) => a = b
  | _ => False
def unpackK (k : Pk) (p : Nat) (m : k.M) (H : Hp) (nx : Nat) (K : Hp → Nat → Prop) : Prop := isAbs (absR k m) (hget H p) ∧ ∀ z, k.φ m z → K (outH [(0, .p p 0)] 1 nx H (enum 0 (k.obs z))) (nx + (k.obs z).length + 1)
def packK (k : Pk) (p : Nat) (m : k.M) (H : Hp) (nx : Nat) (K : Hp → Nat → Prop) : Prop := ∃ z, k.φ m z ∧ ifB (rootB (k.obs z) && (hget H p).isSome)
  (mtHp [(0, .p p 0)] H (enum 0 (k.obs z)) fun r => ifB (apartR r (enum 0 (k.obs z)) && r.all fun q => Nat.blt q.1 (k.obs z).length && lives H q.2) (K (pkH r p nx (k.ob m) H) (nx + 1)) False) False
section
variable {ν ν' : Nu} {N N' : Nat} {w w' : World} {H : Hp}
theorem obH_same (hag : agree N ν ν') (hN : N ≤ N') {l : Nat} {o : Ob} (hl : l < N) (hfp : ν'.fp l = ν.fp l) (hw : ∀ b, fpO ν l o b → w'.heap[b]? = w.heap[b]?) (h : obH ν N w l o) : obH ν' N' w' l o := by
  obtain ⟨hb, hs⟩ := hag l hl
  cases o with
  | cells cs =>
    obtain ⟨h1, vs, T, h2, h3⟩ := h
    refine ⟨by rw [hfp, hb]; exact h1, vs, T, ?_, relAs_mono hag hN h3⟩
    rw [hb, hw _ ((h1 _).2 rfl)]
    exact h2
  | row o ks xs =>
    cases o with
    | true =>
      obtain ⟨h0, h0', h1, e, h2⟩ := h
      refine ⟨h0, h0', by rw [hfp, hs]; exact h1, e, ?_⟩
      rw [hs]
      refine ⟨h2.1, ?_⟩
      rcases h2.2 with h | ⟨g, cap, cur, h3, h4, h5, h6⟩
      · exact .inl h
      · refine .inr ⟨g, cap, cur, h3, h4, ?_, h6⟩
        rw [hw g ((h1 g).2 (by rw [h3]; rfl))]
        exact h5
    | false =>
      obtain ⟨h0, h0', h1, base, cap, h2, h3, h4⟩ := h
      refine ⟨h0, h0', by rw [hfp, hs]; exact h1, base, cap, by rw [hs]; exact h2, h3, fun j v hv => ?_⟩
      obtain ⟨a, rfl, hc⟩ := h4 j v hv
      refine ⟨a, rfl, ?_⟩
      have ha := h3.2.1 a rfl
      have hx : xs ≠ [] := by rintro rfl; simp [flat] at hv
      rw [toAddr a ha] at hc ⊢
      rw [World.cell?_of_block (w := w)]
      · exact hc
      · exact hw a.block ((h1 _).2 ⟨by rw [h2]; rfl, hx⟩)
  | abs r =>
    refine ⟨fun b h' => ?_, fun w2 h2 => ?_⟩
    · have h'' : ν.fp l b := by rw [← hfp]; exact h'
      have h1 := h.1 b h''
      have h2 := hw b h''
      rw [Array.getElem?_eq_getElem h1] at h2
      exact heap_lt h2
    · rw [hb, hfp]
      exact h.2 w2 fun b hb' => (h2 b (by rw [hfp]; exact hb')).trans (hw b hb')
  | gone => trivial
  | crow z n cs =>
    obtain ⟨h0, h1, e, vs, h2, h3⟩ := h
    refine ⟨h0, by rw [hfp, hs]; exact h1, e, vs, ?_, relAs_mono hag hN h3⟩
    rw [hs]
    refine ⟨h2.1, ?_⟩
    rcases h2.2 with h | ⟨g, cap, cur, h3, h4, h5, h6⟩
    · exact .inl h
    · refine .inr ⟨g, cap, cur, h3, h4, ?_, h6⟩
      rw [hw g ((h1 g).2 (by rw [h3]; rfl))]
      exact h5
theorem fpO_fp {ν : Nu} {l b : Nat} {o : Ob} (h : fpO ν l o b) : ν.fp l b := by cases o <;> first | exact h | exact h.elim
theorem fpO_own {ν : Nu} {l b : Nat} {o : Ob} (ho : ownOb o = true) (h : ν.fp l b) : fpO ν l o b := by cases o <;> first | exact h | cases ho
theorem og_enum {obs : List Ob} : ∀ {n l : Nat}, og (enum n obs) l = if n ≤ l then obs[l - n]? else none := by
  induction obs with
  | nil => intro n l; simp [enum, og]
  | cons o os ih =>
    intro n l
    simp only [enum, og, ih]
    by_cases h : n = l
    · subst h; simp
    · rw [if_neg h]
      by_cases h2 : n ≤ l
      · have e : l - n = (l - (n + 1)) + 1 := by omega
        rw [if_pos (by omega), if_pos h2, e, List.getElem?_cons_succ]
      · rw [if_neg (by omega), if_neg h2]
theorem og_enum0 {obs : List Ob} {l : Nat} : og (enum 0 obs) l = obs[l]? := by rw [og_enum]; simp
theorem rootB_own {obs : List Ob} (h : rootB obs = true) {l : Nat} {o : Ob} (ho : obs[l]? = some o) : ownOb o = true := by
  cases obs with
  | nil => simp at ho
  | cons c os =>
    cases c with
    | cells cs =>
      cases l with
      | zero => simp at ho; subst ho; rfl
      | succ l =>
        rw [List.getElem?_cons_succ] at ho
        exact (List.all_eq_true.1 h) _ (List.mem_of_getElem? ho)
    | row _ _ _ => cases h
    | abs _ => cases h
    | gone => cases h
    | crow _ _ _ => cases h
theorem unpack_sound {k : Pk} {p : Nat} {m : k.M} (hH : hpH ν N w H) {K : Hp → Nat → Prop} (h : unpackK k p m H N K) : ∃ ν' H' N', hpH ν' N' w H' ∧ Mv ν N H w ν' N' H' w ∧ K H' N' := by
  obtain ⟨h0, hK⟩ := h
  have hp : hget H p = some (.abs (absR k m)) := by
    unfold isAbs at h0
    split at h0
    · rename_i b hb; rw [hb, h0]
    · exact h0.elim
  obtain ⟨hpN, hlt, hab⟩ := hH.ob p _ hp
  obtain ⟨z, hz, hroot, νz, hblk, hHz, hsub⟩ := hab w fun _ _ => rfl
  have hk := hK z hz
  have hown : ∀ {l o}, (k.obs z)[l]? = some o → ownOb o = true := fun h => rootB_own hroot h
  obtain ⟨cs, os, hos⟩ : ∃ cs os, k.obs z = .cells cs :: os := by
    unfold rootB at hroot
    split at hroot
    · rename_i cs os he; exact ⟨cs, os, he⟩
    · cases hroot
  generalize k.obs z = obs at *
  have h00 : obs[0]? = some (.cells cs) := by rw [hos]; rfl
  have hr : rnOK ν N νz [(0, .p p 0)] := by
    intro l a hl
    rw [rget_cons] at hl
    split at hl
    · rename_i e; subst e; cases hl; exact ⟨rfl, hpN, hblk⟩
    · cases hl
  have R0 : Ren ν νz νz (backNu ν νz [(0, .p p 0)] 1 N (enum 0 obs)) 1 N obs.length [(0, .p p 0)] := backRen hr (fun _ _ => ⟨rfl, rfl⟩) _
  have agN : agree N ν (backNu ν νz [(0, .p p 0)] 1 N (enum 0 obs)) := R0.old
  have act0 : act [(0, .p p 0)] 1 N 0 = some p := rfl
  have srcS : ∀ {l l' o}, src [(0, .p p 0)] 1 N l (enum 0 obs) = some (l', o) → obs[l']? = some o ∧ ((l' = 0 ∧ l = p) ∨ (0 < l' ∧ l = N + (l' - 1))) := by
    intro l l' o hs
    obtain ⟨g1, g2⟩ := src_og hs
    rw [og_enum0] at g1
    refine ⟨g1, ?_⟩
    unfold act at g2
    split at g2
    · rename_i hl
      obtain rfl : l' = 0 := by omega
      exact .inl ⟨rfl, by cases g2; rfl⟩
    · exact .inr ⟨by omega, by cases g2; rfl⟩
  have srcP : src [(0, .p p 0)] 1 N p (enum 0 obs) ≠ none := by
    intro hn
    exact src_none hn 0 (.cells cs) (by rw [og_enum0]; exact h00) act0
  have getC : ∀ {l o'}, hget (outH [(0, .p p 0)] 1 N H (enum 0 obs)) l = some o' → src [(0, .p p 0)] 1 N l (enum 0 obs) ≠ none → ∃ l' o, src [(0, .p p 0)] 1 N l (enum 0 obs) = some (l', o) ∧ o' = renOb [(0, .p p 0)] 1 N o := by
    intro l o' hg hs
    rw [hget_outH] at hg
    split at hg
    · rename_i q he; cases hg; exact ⟨q.1, q.2, he, rfl⟩
    · rename_i he; exact absurd he hs
  have getN : ∀ {l o'}, hget (outH [(0, .p p 0)] 1 N H (enum 0 obs)) l = some o' → src [(0, .p p 0)] 1 N l (enum 0 obs) = none → hget H l = some o' := by
    intro l o' hg hs
    rw [hget_outH, hs] at hg
    exact hg
  have fps : ∀ {l l' o}, src [(0, .p p 0)] 1 N l (enum 0 obs) = some (l', o) → (backNu ν νz [(0, .p p 0)] 1 N (enum 0 obs)).fp l = νz.fp l' := fun hs => by simp [backNu, hs]
  have fpn : ∀ {l}, src [(0, .p p 0)] 1 N l (enum 0 obs) = none → (backNu ν νz [(0, .p p 0)] 1 N (enum 0 obs)).fp l = ν.fp l := fun hs => by simp [backNu, hs]
  have ltO : ∀ {l o}, obs[l]? = some o → l < obs.length := fun h => (List.getElem?_eq_some_iff.1 h).1
  have obz : ∀ {l o}, obs[l]? = some o → obH νz obs.length w l o := fun {l o} h => (hHz.ob l o (by rw [hget_heap0]; exact h)).2
  have ownR : ∀ o, ownOb (renOb [(0, .p p 0)] 1 N o) = ownOb o := fun o => by cases o <;> rfl
  have mono' : ∀ {a v}, relA νz obs.length a v → relA νz (1 + obs.length + 1) a v := fun h => relA_mono (fun _ _ => ⟨rfl, rfl⟩) (by omega) h
  refine ⟨_, _, _, ?_, ⟨Go1.refl _ _, ?_, agN, by omega, ?_, ?_⟩, hk⟩
  · refine hpH_upd hH (fun l => src [(0, .p p 0)] 1 N l (enum 0 obs) = none) ?_ (by omega) agN (Nat.le_refl _) ?_ (fun _ _ _ _ _ _ => rfl) ?_ ?_ ?_
    · intro l o hl
      rw [hst_outH]
      split
      · omega
      · rename_i he
        have := hH.st l o (getN hl he)
        omega
    · exact fun l o hs hl => ⟨getN hl hs, fpn hs⟩
    · intro l o' hs hl
      obtain ⟨l', o, he, rfl⟩ := getC hl hs
      obtain ⟨g1, g2⟩ := srcS he
      have hl' := ltO g1
      refine ⟨by rcases g2 with ⟨_, rfl⟩ | ⟨_, rfl⟩ <;> omega, ?_⟩
      have hob := obz g1
      have hfp := fps he
      have hbs : (backNu ν νz [(0, .p p 0)] 1 N (enum 0 obs)).blk l = νz.blk l' ∧ (0 < l' → (backNu ν νz [(0, .p p 0)] 1 N (enum 0 obs)).sv l = νz.sv l') := by
        rcases g2 with ⟨rfl, rfl⟩ | ⟨h1, rfl⟩
        · exact ⟨by rw [(agN _ hpN).1, hblk], fun h => absurd h (by omega)⟩
        · have := R0.new (l' - 1)
          rw [show 1 + (l' - 1) = l' by omega] at this
          exact ⟨this.1, fun _ => this.2⟩
      have hpos : (∀ cs, o ≠ .cells cs) → 0 < l' := by
        intro hc
        rcases Nat.eq_zero_or_pos l' with rfl | h
        · rw [h00] at g1; cases g1; exact absurd rfl (hc cs)
        · exact h
      have relR' : ∀ {asq : List A} {vs : List Value}, relAs νz obs.length asq vs → relAs (backNu ν νz [(0, .p p 0)] 1 N (enum 0 obs)) (N + obs.length + 1) (asq.map (renA [(0, .p p 0)] 1 N)) vs := fun h => relAs_ren R0 (relAs_mono (fun _ _ => ⟨rfl, rfl⟩) (by omega) h)
      cases o with
      | cells cs' =>
        obtain ⟨h1, vs, T, h2, h3⟩ := hob
        exact ⟨fun b => by rw [hfp, hbs.1]; exact h1 b, vs, T, by rw [hbs.1]; exact h2, relR' h3⟩
      | row own ks xs =>
        have hp' := hpos nofun
        cases own with
        | true =>
          obtain ⟨h0, h0', h1, e, h2⟩ := hob
          exact ⟨h0, h0', fun b => by rw [hfp, hbs.2 hp']; exact h1 b, e, by rw [hbs.2 hp']; exact h2⟩
        | false => exact absurd (hown g1) (by simp [ownOb])
      | abs r =>
        refine ⟨fun b hb => hob.1 b (by rw [← hfp]; exact hb), fun w2 h2 => ?_⟩
        rw [hbs.1, hfp]
        exact hob.2 w2 fun b hb => h2 b (by rw [hfp]; exact hb)
      | gone => trivial
      | crow zz n asq =>
        have hp' := hpos nofun
        obtain ⟨h0, h1, e, vs, h2, h3⟩ := hob
        exact ⟨h0, fun b => by rw [hfp, hbs.2 hp']; exact h1 b, e, vs, by rw [hbs.2 hp']; exact h2, relR' h3⟩
    · intro l o' hs hl b hb
      obtain ⟨l', o, he, rfl⟩ := getC hl hs
      obtain ⟨g1, g2⟩ := srcS he
      have hb := fpO_fp hb
      rw [fps he] at hb
      exact .inr ⟨p, _, srcP, hp, rfl, hsub l' o b g1 hb⟩
    · intro l l' o o' hne hs hs' hl hl' _ b hb hb'
      obtain ⟨i, oi, he, rfl⟩ := getC hl hs
      obtain ⟨j, oj, he', rfl⟩ := getC hl' hs'
      obtain ⟨g1, g2⟩ := srcS he
      obtain ⟨g1', g2'⟩ := srcS he'
      have hb := fpO_fp hb
      have hb' := fpO_fp hb'
      rw [fps he] at hb
      rw [fps he'] at hb'
      have hij : i ≠ j := by
        rintro rfl
        rcases g2 with ⟨a, rfl⟩ | ⟨a, rfl⟩ <;> rcases g2' with ⟨c, rfl⟩ | ⟨c, rfl⟩ <;> first | exact hne rfl | omega
      exact hHz.ap i j oi oj hij (by rw [hget_heap0]; exact g1) (by rw [hget_heap0]; exact g1') (.inl (hown g1)) b (fpO_own (hown g1) hb) (fpO_own (hown g1') hb')
  · rintro b ⟨l, o', hl, ho, hb⟩
    refine .inl ?_
    by_cases hs : src [(0, .p p 0)] 1 N l (enum 0 obs) = none
    · exact ⟨l, o', getN hl hs, ho, by rw [← fpn hs]; exact hb⟩
    · obtain ⟨l', o, he, rfl⟩ := getC hl hs
      obtain ⟨g1, g2⟩ := srcS he
      rw [fps he] at hb
      exact ⟨p, _, hp, rfl, hsub l' o b g1 hb⟩
  · intro l o hl he
    rw [hst_outH] at he
    have := hH.st l o hl
    cases hs : src [(0, .p p 0)] 1 N l (enum 0 obs) with
    | some q => rw [hs] at he; simp only at he; omega
    | none => exact ⟨by rw [hget_outH, hs]; exact hl, fpn hs, fun _ _ => rfl⟩
  · intro l
    rw [hst_outH]
    split
    · exact .inr (Nat.le_refl _)
    · exact .inl rfl
def tgts (r : Rn) (l : Nat) : Prop := ∃ q ∈ r, tgt q.2 = some l
theorem hget_foldgone (nx : Nat) (H : Hp) (l : Nat) : ∀ r : Rn, (tgts r l → hget (r.foldr (fun q H => match tgt q.2 with
  | some t => hset H t nx .gone
  | none => H) H) l = some .gone ∧ hst (r.foldr (fun q H => match tgt q.2 with
  | some t => hset H t nx .gone
  | none => H) H) l = nx) ∧ (¬ tgts r l → hget (r.foldr (fun q H => match tgt q.2 with
  | some t => hset H t nx .gone
  | none => H) H) l = hget H l ∧ hst (r.foldr (fun q H => match tgt q.2 with
  | some t => hset H t nx .gone
  | none => H) H) l = hst H l)
  | [] => ⟨fun ⟨q, hq, _⟩ => by simp at hq, fun _ => ⟨rfl, rfl⟩⟩
  | q :: r => by
    obtain ⟨i1, i2⟩ := hget_foldgone nx H l r
    rw [List.foldr_cons]
    cases ht : tgt q.2 with
    | none =>
      simp only
      refine ⟨fun ⟨q', hq', h'⟩ => i1 ?_, fun h => i2 fun ⟨q', hq', h'⟩ => h ⟨q', List.mem_cons_of_mem _ hq', h'⟩⟩
      rcases List.mem_cons.1 hq' with rfl | hq'
      · rw [ht] at h'; cases h'
      · exact ⟨q', hq', h'⟩
    | some t =>
      simp only
      rw [hget_hset, hst_hset]
      by_cases e : t = l
      · subst e
        rw [if_pos rfl, if_pos rfl]
        exact ⟨fun _ => ⟨rfl, rfl⟩, fun h => absurd ⟨q, List.mem_cons_self, ht⟩ h⟩
      · rw [if_neg e, if_neg e]
        refine ⟨fun ⟨q', hq', h'⟩ => i1 ?_, fun h => i2 fun ⟨q', hq', h'⟩ => h ⟨q', List.mem_cons_of_mem _ hq', h'⟩⟩
        rcases List.mem_cons.1 hq' with rfl | hq'
        · rw [ht] at h'; cases h'; exact absurd rfl e
        · exact ⟨q', hq', h'⟩
theorem rget_mem' {r : Rn} {l : Nat} {a : A} (h : rget r l = some a) : (l, a) ∈ r := by
  induction r with
  | nil => cases h
  | cons q r ih =>
    rw [show q = (q.1, q.2) from rfl, rget_cons] at h
    split at h
    · rename_i e; cases h; subst e; simp
    · exact List.mem_cons_of_mem _ (ih h)
theorem pack_sound {k : Pk} {p : Nat} {m : k.M} (hH : hpH ν N w H) {K : Hp → Nat → Prop} (h : packK k p m H N K) : ∃ ν' H' N', hpH ν' N' w H' ∧ Mv ν N H w ν' N' H' w ∧ K H' N' := by
  obtain ⟨z, hz, h⟩ := h
  obtain ⟨hc, h⟩ := ifB_both h
  simp only [Bool.and_eq_true] at hc
  obtain ⟨hroot, hps⟩ := hc
  obtain ⟨op, hop⟩ := Option.isSome_iff_exists.1 hps
  have hpN := (hH.ob p op hop).1
  have hr0 : rnOK ν N ⟨fun _ => ν.blk p, fun _ => undef, fun _ _ => False⟩ [(0, .p p 0)] := by
    intro l a hl
    rw [rget_cons] at hl
    split at hl
    · cases hl; exact ⟨rfl, hpN, rfl⟩
    · cases hl
  obtain ⟨r, νf, h2, hr, ex, ht⟩ := mtHp_sound hH hr0 h
  obtain ⟨hc2, hK⟩ := ifB_both h2
  simp only [Bool.and_eq_true] at hc2
  obtain ⟨hap, hall⟩ := hc2
  have hown : ∀ {l o}, (k.obs z)[l]? = some o → ownOb o = true := fun h => rootB_own hroot h
  have hab : ∀ (F : Nat → Prop) (w' : World) (ν' : Nu), ν'.blk 0 = ν.blk p → hpH ν' (k.obs z).length w' (heap0 (k.obs z)) → (∀ l o x, (k.obs z)[l]? = some o → ν'.fp l x → F x) → absR k m w' (ν.blk p) F := fun F w' ν' a b c => ⟨z, hz, hroot, ν', a, b, c⟩
  generalize k.obs z = obs at *
  have hb : ∀ l a, rget r l = some a → l < obs.length := by
    intro l a hl
    have := (List.all_eq_true.1 hall) _ (rget_mem' hl)
    rw [blt_if] at this
    simp only [Bool.and_eq_true, decide_eq_true_eq] at this
    exact this.1
  have ht' : ∀ l o, obs[l]? = some o → Tied ν w H r νf l o := fun l o hl => ht (l, o) (enum_mem.2 ⟨Nat.zero_le _, by simpa using hl⟩)
  have hF := closeF_ok hH hr ht' hap hb
  have hblk : (closeF ν νf r obs).blk 0 = ν.blk p := (ex.same 0 (.p p 0) rfl).1
  have fpt : ∀ {j o b}, obs[j]? = some o → (closeF ν νf r obs).fp j b → ∃ m om, tgts r m ∧ hget H m = some om ∧ ownOb om = true ∧ ν.fp m b := by
    intro j o b hj hb'
    rw [closeF_fp hj] at hb'
    obtain ⟨m, om, q1, q2, q3, q4⟩ := tied_fp hH hr (ht' j o hj) hb'
    cases hg : rget r j with
    | none => rw [hg] at q1; cases q1
    | some a => rw [hg] at q1; exact ⟨m, om, ⟨(j, a), rget_mem' hg, q1⟩, q2, q4 (hown hj), fpO_fp q3⟩
  have fpe : ∀ {j b}, (closeF ν νf r obs).fp j b → ∃ o, obs[j]? = some o := by
    intro j b hb'
    cases ho : obs[j]? with
    | none => simp [closeF, ho] at hb'
    | some o => exact ⟨o, rfl⟩
  let ν' : Nu := ⟨ν.blk, ν.sv, fun l b => if l = p then ∃ j, (closeF ν νf r obs).fp j b else ν.fp l b⟩
  have agN : agree N ν ν' := fun _ _ => ⟨rfl, rfl⟩
  have fpp : ∀ b, ν'.fp p b ↔ ∃ j, (closeF ν νf r obs).fp j b := fun b => by simp [ν']
  have fpn : ∀ {l}, l ≠ p → ν'.fp l = ν.fp l := fun hl => by funext b; simp [ν', hl]
  have gp : hget (pkH r p N (k.ob m) H) p = some (k.ob m) := by unfold pkH; rw [hget_hset, if_pos rfl]
  have gt : ∀ {l}, l ≠ p → tgts r l → hget (pkH r p N (k.ob m) H) l = some .gone := fun hl htg => by
    unfold pkH; rw [hget_hset, if_neg (fun e => hl e.symm)]; exact ((hget_foldgone N H _ r).1 htg).1
  have gn : ∀ {l}, l ≠ p → ¬ tgts r l → hget (pkH r p N (k.ob m) H) l = hget H l ∧ hst (pkH r p N (k.ob m) H) l = hst H l := fun hl htg => by
    unfold pkH; rw [hget_hset, if_neg (fun e => hl e.symm), hst_hset, if_neg (fun e => hl e.symm)]; exact (hget_foldgone N H _ r).2 htg
  have gs : ∀ {l}, l = p ∨ tgts r l → hst (pkH r p N (k.ob m) H) l = N := fun {l} hl => by
    unfold pkH
    rw [hst_hset]
    by_cases e : p = l
    · rw [if_pos e]
    · rw [if_neg e]
      exact ((hget_foldgone N H _ r).1 (hl.resolve_left fun k => e k.symm)).2
  have tlt' : ∀ {l}, tgts r l → l < N + 1 := by
    rintro l ⟨q, hq, htq⟩
    have := (List.all_eq_true.1 hall) _ hq
    simp only [Bool.and_eq_true, lives, htq] at this
    obtain ⟨o, ho⟩ := Option.isSome_iff_exists.1 this.2
    have := (hH.ob l o ho).1
    omega
  have cases3 : ∀ l, (l = p) ∨ (l ≠ p ∧ tgts r l) ∨ (l ≠ p ∧ ¬ tgts r l) := fun l => by
    by_cases h1 : l = p
    · exact .inl h1
    · by_cases h2 : tgts r l
      · exact .inr (.inl ⟨h1, h2⟩)
      · exact .inr (.inr ⟨h1, h2⟩)
  refine ⟨ν', _, _, ?_, ⟨Go1.refl _ _, ?_, agN, by omega, ?_, ?_⟩, hK⟩
  · refine hpH_upd hH (fun l => l ≠ p ∧ ¬ tgts r l) ?_ (by omega) agN (Nat.le_refl _) ?_ (fun _ _ _ _ _ _ => rfl) ?_ ?_ ?_
    · intro l o hl
      rcases cases3 l with h1 | ⟨_, h1⟩ | ⟨h1, h2⟩
      · rw [gs (.inl h1)]; omega
      · rw [gs (.inr h1)]; omega
      · rw [(gn h1 h2).2]
        rw [(gn h1 h2).1] at hl
        have := hH.st l o hl
        omega
    · rintro l o ⟨h1, h2⟩ hl
      exact ⟨by rw [← (gn h1 h2).1]; exact hl, fpn h1⟩
    · intro l o hk hl
      rcases cases3 l with rfl | ⟨h1, h2⟩ | h1
      · rw [gp] at hl
        cases hl
        refine ⟨by omega, fun b hb' => ?_, fun w2 h2 => ?_⟩
        · obtain ⟨j, hj⟩ := (fpp b).1 hb'
          obtain ⟨o, ho⟩ := fpe hj
          exact fp_lt (hF.ob j o (by rw [hget_heap0]; exact ho)).2 (fpO_own (hown ho) hj)
        · refine hab _ w2 (closeF ν νf r obs) hblk ?_ fun j o x hj hx => (fpp x).2 ⟨j, hx⟩
          refine ⟨fun j o hj => ⟨(hF.ob j o hj).1, ?_⟩, hF.st, hF.ap⟩
          exact obH_same (fun _ _ => ⟨rfl, rfl⟩) (Nat.le_refl _) (hF.ob j o hj).1 rfl (fun b hb' => h2 b ((fpp b).2 ⟨j, fpO_fp hb'⟩)) (hF.ob j o hj).2
      · rw [gt h1 h2] at hl
        cases hl
        exact ⟨tlt' h2, trivial⟩
      · exact absurd h1 hk
    · intro l o hk hl b hb'
      rcases cases3 l with rfl | ⟨h1, h2⟩ | h1
      · obtain ⟨j, hj⟩ := (fpp b).1 (fpO_fp hb')
        obtain ⟨oj, ho⟩ := fpe hj
        obtain ⟨m', om, q1, q2, q3, q4⟩ := fpt ho hj
        exact .inr ⟨m', om, fun hk => hk.2 q1, q2, q3, fpO_own q3 q4⟩
      · rw [gt h1 h2] at hl
        cases hl
        exact hb'.elim
      · exact absurd h1 hk
    · intro l l' o o' hne hk hk' hl hl' _ b hb1 hb2
      rcases cases3 l with rfl | ⟨h1, h2⟩ | h1
      · rcases cases3 l' with rfl | ⟨h1, h2⟩ | h1
        · exact hne rfl
        · rw [gt h1 h2] at hl'
          cases hl'
          exact hb2.elim
        · exact hk' h1
      · rw [gt h1 h2] at hl
        cases hl
        exact hb1.elim
      · exact hk h1
  · rintro b ⟨l, o, hl, ho, hb'⟩
    refine .inl ?_
    rcases cases3 l with rfl | ⟨h1, h2⟩ | ⟨h1, h2⟩
    · obtain ⟨j, hj⟩ := (fpp b).1 hb'
      obtain ⟨oj, hoj⟩ := fpe hj
      obtain ⟨m', om, q1, q2, q3, q4⟩ := fpt hoj hj
      exact ⟨m', om, q2, q3, q4⟩
    · rw [gt h1 h2] at hl
      cases hl
      cases ho
    · rw [(gn h1 h2).1] at hl
      rw [fpn h1] at hb'
      exact ⟨l, o, hl, ho, hb'⟩
  · intro l o hl he
    have := hH.st l o hl
    rcases cases3 l with h1 | ⟨_, h1⟩ | ⟨h1, h2⟩
    · rw [gs (.inl h1)] at he; omega
    · rw [gs (.inr h1)] at he; omega
    · exact ⟨by rw [(gn h1 h2).1]; exact hl, fpn h1, fun _ _ => rfl⟩
  · intro l
    rcases cases3 l with h1 | ⟨_, h1⟩ | ⟨h1, h2⟩
    · exact .inr (by rw [gs (.inl h1)]; exact Nat.le_refl _)
    · exact .inr (by rw [gs (.inr h1)]; exact Nat.le_refl _)
    · exact .inl (gn h1 h2).2
end
def wraps (k : Pk) (S S' : Con) : Prop := ∀ x' : S'.X, S'.pre x' → ∃ m, unpackK k 0 m (heap0 (S'.heap x')) (S'.heap x').length fun H nx => callS S (S'.args x') H nx fun r H nx => ∃ m', packK k 0 m' H nx fun H _ => anyOut x' (S'.heap x') r H S'.outs
def wrapsN (k : Pk) (p : Nat) (S S' : Con) : Prop := ∀ x' : S'.X, S'.pre x' → callS S (S'.args x') (heap0 (S'.heap x')) (S'.heap x').length fun r H nx => ∃ m', packK k p m' H nx fun H _ => anyOut x' (S'.heap x') r H S'.outs
theorem good_wrap {P : Program} {f : FuncId} {S S' : Con} (k : Pk) (hg : Good P f S) (h : wraps k S S') : Good P f S' := by
  refine ⟨hg.1, fun x' hx' ν w args hv hH => ?_⟩
  obtain ⟨m, h⟩ := h x' hx'
  obtain ⟨ν1, H1, N1, hH1, hm1, h⟩ := unpack_sound hH h
  refine Calls.mono (callS_sound hg (relVs_mono hm1.ag hm1.le hv) hH1 h) ?_
  rintro e w' ⟨v, rfl, ν2, N2, H2, r, hr, hH2, hm2, m', h⟩
  obtain ⟨ν3, H3, N3, hH3, hm3, h⟩ := pack_sound hH2 h
  obtain ⟨oc, h1, h2⟩ := end_at hH hH3 ((hm1.trans hH.st hm2).trans hH.st hm3) (relR_mono hm3.ag hm3.le hr) h
  exact ⟨v, rfl, oc, h1, h2⟩
theorem good_wrapN {P : Program} {f : FuncId} {S S' : Con} (k : Pk) (p : Nat) (hg : Good P f S) (h : wrapsN k p S S') : Good P f S' := by
  refine ⟨hg.1, fun x' hx' ν w args hv hH => ?_⟩
  refine Calls.mono (callS_sound hg hv hH (h x' hx')) ?_
  rintro e w' ⟨v, rfl, ν2, N2, H2, r, hr, hH2, hm2, m', h⟩
  obtain ⟨ν3, H3, N3, hH3, hm3, h⟩ := pack_sound hH2 h
  obtain ⟨oc, h1, h2⟩ := end_at hH hH3 (hm2.trans hH.st hm3) (relR_mono hm3.ag hm3.le hr) h
  exact ⟨v, rfl, oc, h1, h2⟩
@[reducible] def Con.rowP (k : Pk) (X : Type) (m : X → k.M) (args : X → List V) (pre : X → Prop) (ks : List Kd) (l : X → List (Tup ks)) : Con :=
  { X := X, args := fun x => .one (.p 0 0) :: args x, heap := fun x => [k.ob (m x)], pre := pre, outs := [{ Y := Unit, post := fun _ _ => True, res := fun x _ => .a (.f 1 (l x).length), out := fun x _ => [(0, k.ob (m x)), (1, .row true ks (l x))], nn := 1 }] }
@[reducible] def Con.setP (k : Pk) (X : Type) (m : X → k.M) (args : X → List V) (pre : X → Prop) (u : X → k.M) (res : X → R) : Con :=
  { X := X, args := fun x => .one (.p 0 0) :: args x, heap := fun x => [k.ob (m x)], pre := pre, outs := [{ Y := Unit, post := fun _ _ => True, res := fun x _ => res x, out := fun x _ => [(0, k.ob (u x))], nn := 0 }] }
@[reducible] def Con.lookP (k : Pk) (X : Type) (m : X → k.M) (args : X → List V) (pre : X → Prop) (res : X → R) : Con := .setP k X m args pre m res
end Sx
end
section
set_option linter.all false
namespace Go.Proofs.YthnhbnakpmkppaaGreat.Ma
def topN (h : Nat) : Nat := (2 ^ h - 1) * 2 ^ (64 - h)
def keepN (x h : Nat) : Nat := x / 2 ^ (64 - h) * 2 ^ (64 - h)
def onesN (c m : Nat) : Nat := topN c &&& (18446744073709551615 - topN m)

theorem keepN_le (x h : Nat) : keepN x h ≤ x := Nat.div_mul_le_self _ _
theorem keepN_all (x h : Nat) (hh : 64 ≤ h) : keepN x h = x := by unfold keepN; rw [show 64 - h = 0 from by omega]; simp
theorem keepN_none (x : Nat) (hx : x < 18446744073709551616) : keepN x 0 = 0 := by
  unfold keepN
  rw [Nat.div_eq_of_lt (by simpa using hx), Nat.zero_mul]
theorem bit_keepN (x h j : Nat) : (keepN x h).testBit j = (decide (64 - h ≤ j) && x.testBit j) := by
  unfold keepN
  rw [← Nat.shiftRight_eq_div_pow, ← Nat.shiftLeft_eq, Nat.testBit_shiftLeft, Nat.testBit_shiftRight]
  by_cases hj : 64 - h ≤ j
  · simp [hj]
  · simp [hj]
theorem bit_topN (h j : Nat) : (topN h).testBit j = (decide (64 - h ≤ j) && decide (j - (64 - h) < h)) := by
  unfold topN
  rw [← Nat.shiftLeft_eq, Nat.testBit_shiftLeft, Nat.testBit_two_pow_sub_one]
theorem topN_lt (h : Nat) (hh : h ≤ 64) : topN h < 18446744073709551616 := by
  unfold topN
  have h1 : 2 ^ h * 2 ^ (64 - h) = 18446744073709551616 := by rw [← Nat.pow_add, show h + (64 - h) = 64 from by omega]
  have h2 : 0 < 2 ^ (64 - h) := Nat.two_pow_pos _
  rw [Nat.sub_mul, Nat.one_mul]
  have h3 : 2 ^ (64 - h) ≤ 2 ^ h * 2 ^ (64 - h) := Nat.le_mul_of_pos_left _ (Nat.two_pow_pos _)
  omega
theorem topN_zero : topN 0 = 0 := by decide
theorem bit_not (x j : Nat) (hx : x < 18446744073709551616) : (18446744073709551615 - x).testBit j = (decide (j < 64) && !x.testBit j) := by
  have := Nat.testBit_two_pow_sub_succ (x := x) (n := 64) (by simpa using hx) j
  rw [← this]
  congr 1
  rw [show (2 : Nat) ^ 64 = 18446744073709551616 from rfl]
  omega
theorem onesN_lt (c m : Nat) (hc : c ≤ 64) : onesN c m < 18446744073709551616 := Nat.lt_of_le_of_lt Nat.and_le_left (topN_lt c hc)
theorem bit_high (x j : Nat) (hx : x < 18446744073709551616) (hj : 64 ≤ j) : x.testBit j = false := Nat.testBit_lt_two_pow (Nat.lt_of_lt_of_le hx (by have := Nat.pow_le_pow_right (n := 2) (by omega) hj; simpa using this))
theorem keepN_lt (x h : Nat) (hx : x < 18446744073709551616) : keepN x h < 18446744073709551616 := Nat.lt_of_le_of_lt (keepN_le x h) hx
theorem and_onesN (x c : Nat) (hx : x < 18446744073709551616) (hc : c ≤ 64) : x &&& onesN c 0 = keepN x c := by
  apply Nat.eq_of_testBit_eq
  intro j
  unfold onesN
  rw [Nat.testBit_and, Nat.testBit_and, bit_topN, bit_not _ _ (by rw [topN_zero]; omega), topN_zero, bit_keepN]
  by_cases hj : 64 ≤ j
  · rw [bit_high x j hx hj]; simp
  · by_cases h1 : 64 - c ≤ j
    · have h2 : j - (64 - c) < c := by omega
      have h3 : j < 64 := by omega
      simp [h1, h2, h3]
    · simp [h1]
theorem andNot_onesN (x c m : Nat) (hx : x < 18446744073709551616) (hc : c ≤ 64) (hm : m ≤ c) : keepN x c &&& (18446744073709551615 - onesN c m) = keepN x m := by
  apply Nat.eq_of_testBit_eq
  intro j
  rw [Nat.testBit_and, bit_keepN, bit_not _ _ (onesN_lt c m hc), bit_keepN]
  unfold onesN
  rw [Nat.testBit_and, bit_topN, bit_not _ _ (topN_lt m (by omega)), bit_topN]
  by_cases hj : 64 ≤ j
  · rw [bit_high x j hx hj]; simp
  · have h3 : j < 64 := by omega
    by_cases h1 : 64 - m ≤ j
    · have h2 : 64 - c ≤ j := by omega
      have h4 : j - (64 - c) < c := by omega
      have h5 : j - (64 - m) < m := by omega
      simp [h1, h2, h3, h4, h5]
    · by_cases h2 : 64 - c ≤ j
      · have h4 : j - (64 - c) < c := by omega
        simp [h1, h2, h3, h4]
      · simp [h1, h2]
theorem high_val (n : Nat) (h0 : 0 < n) (h1 : n ≤ 64) : IntKind.u64.wrap (18446744073709551615 * 2 ^ (64 - n)) = ((topN n : Nat) : Int) := by
  have hk : (18446744073709551615 * 2 ^ (64 - n) : Int) = ((18446744073709551615 * 2 ^ (64 - n) : Nat) : Int) := by
    rw [Int.natCast_mul, Int.natCast_pow]; rfl
  rw [hk, IntKind.wrap_u64]
  have e1 : 2 ^ n * 2 ^ (64 - n) = 18446744073709551616 := by rw [← Nat.pow_add, show n + (64 - n) = 64 from by omega]
  have e2 : 18446744073709551615 * 2 ^ (64 - n) = topN n + 18446744073709551616 * (2 ^ (64 - n) - 1) := by
    unfold topN
    have h3 : 0 < 2 ^ (64 - n) := Nat.two_pow_pos _
    obtain ⟨p, hp⟩ : ∃ p, 2 ^ (64 - n) = p + 1 := ⟨2 ^ (64 - n) - 1, by omega⟩
    have h4 : 2 ^ (64 - n) ≤ 2 ^ n * 2 ^ (64 - n) := Nat.le_mul_of_pos_left _ (Nat.two_pow_pos _)
    rw [Nat.sub_mul, e1, Nat.one_mul, hp, Nat.add_sub_cancel]
    omega
  rw [e2]
  have := topN_lt n h1
  omega
theorem or_join (q k b : Nat) (hb : b < 2 ^ k) (h : q * 2 ^ k + b < 18446744073709551616) : bits .or .u64 ((q * 2 ^ k : Nat) : Int) ((b : Nat) : Int) = ((q * 2 ^ k + b : Nat) : Int) := by
  rw [u64_or_nat _ _ (by omega) (Nat.lt_of_le_of_lt (Nat.le_add_left _ _) h)]
  have h2 := Nat.shiftLeft_add_eq_or_of_lt (i := k) hb q
  rw [Nat.shiftLeft_eq] at h2
  rw [h2]
theorem or_4 (b0 b1 b2 b3 : Nat) (h0 : b0 < 256) (h1 : b1 < 256) (h2 : b2 < 256) (h3 : b3 < 256) : bits .or .u64 (bits .or .u64 (bits .or .u64 (bits .or .u64 0 ((b0 : Int) * 72057594037927936)) ((b1 : Int) * 281474976710656)) ((b2 : Int) * 1099511627776)) ((b3 : Int) * 4294967296) = ((b0 * 72057594037927936 + b1 * 281474976710656 + b2 * 1099511627776 + b3 * 4294967296 : Nat) : Int) := by
  have e0 : bits .or .u64 ((0 : Nat) : Int) ((b0 : Int) * 72057594037927936) = ((b0 * 72057594037927936 : Nat) : Int) := by
    have := or_join 0 64 (b0 * 72057594037927936) (by omega) (by omega)
    rw [Nat.zero_mul, Nat.zero_add] at this
    rw [← this]
    congr 1
  have e1 : bits .or .u64 ((b0 * 72057594037927936 : Nat) : Int) ((b1 : Int) * 281474976710656) = ((b0 * 72057594037927936 + b1 * 281474976710656 : Nat) : Int) := by
    have := or_join (b0) 56 (b1 * 281474976710656) (by omega) (by omega)
    rw [show (b0) * 2 ^ 56 = b0 * 72057594037927936 from by omega] at this
    exact this
  have e2 : bits .or .u64 ((b0 * 72057594037927936 + b1 * 281474976710656 : Nat) : Int) ((b2 : Int) * 1099511627776) = ((b0 * 72057594037927936 + b1 * 281474976710656 + b2 * 1099511627776 : Nat) : Int) := by
    have := or_join (b0 * 256 + b1) 48 (b2 * 1099511627776) (by omega) (by omega)
    rw [show (b0 * 256 + b1) * 2 ^ 48 = b0 * 72057594037927936 + b1 * 281474976710656 from by omega] at this
    exact this
  have e3 : bits .or .u64 ((b0 * 72057594037927936 + b1 * 281474976710656 + b2 * 1099511627776 : Nat) : Int) ((b3 : Int) * 4294967296) = ((b0 * 72057594037927936 + b1 * 281474976710656 + b2 * 1099511627776 + b3 * 4294967296 : Nat) : Int) := by
    have := or_join (b0 * 65536 + b1 * 256 + b2) 40 (b3 * 4294967296) (by omega) (by omega)
    rw [show (b0 * 65536 + b1 * 256 + b2) * 2 ^ 40 = b0 * 72057594037927936 + b1 * 281474976710656 + b2 * 1099511627776 from by omega] at this
    exact this
  rw [show (0 : Int) = ((0 : Nat) : Int) from rfl, e0, e1, e2, e3]
theorem or_8 (b0 b1 b2 b3 b4 b5 b6 b7 : Nat) (h0 : b0 < 256) (h1 : b1 < 256) (h2 : b2 < 256) (h3 : b3 < 256) (h4 : b4 < 256) (h5 : b5 < 256) (h6 : b6 < 256) (h7 : b7 < 256) : bits .or .u64 (bits .or .u64 (bits .or .u64 (bits .or .u64 (bits .or .u64 (bits .or .u64 (bits .or .u64 (bits .or .u64 0 ((b0 : Int) * 72057594037927936)) ((b1 : Int) * 281474976710656)) ((b2 : Int) * 1099511627776)) ((b3 : Int) * 4294967296)) ((b4 : Int) * 16777216)) ((b5 : Int) * 65536)) ((b6 : Int) * 256)) (b7 : Int) = ((b0 * 72057594037927936 + b1 * 281474976710656 + b2 * 1099511627776 + b3 * 4294967296 + b4 * 16777216 + b5 * 65536 + b6 * 256 + b7 : Nat) : Int) := by
  have e0 : bits .or .u64 ((0 : Nat) : Int) ((b0 : Int) * 72057594037927936) = ((b0 * 72057594037927936 : Nat) : Int) := by
    have := or_join 0 64 (b0 * 72057594037927936) (by omega) (by omega)
    rw [Nat.zero_mul, Nat.zero_add] at this
    rw [← this]
    congr 1
  have e1 : bits .or .u64 ((b0 * 72057594037927936 : Nat) : Int) ((b1 : Int) * 281474976710656) = ((b0 * 72057594037927936 + b1 * 281474976710656 : Nat) : Int) := by
    have := or_join (b0) 56 (b1 * 281474976710656) (by omega) (by omega)
    rw [show (b0) * 2 ^ 56 = b0 * 72057594037927936 from by omega] at this
    exact this
  have e2 : bits .or .u64 ((b0 * 72057594037927936 + b1 * 281474976710656 : Nat) : Int) ((b2 : Int) * 1099511627776) = ((b0 * 72057594037927936 + b1 * 281474976710656 + b2 * 1099511627776 : Nat) : Int) := by
    have := or_join (b0 * 256 + b1) 48 (b2 * 1099511627776) (by omega) (by omega)
    rw [show (b0 * 256 + b1) * 2 ^ 48 = b0 * 72057594037927936 + b1 * 281474976710656 from by omega] at this
    exact this
  have e3 : bits .or .u64 ((b0 * 72057594037927936 + b1 * 281474976710656 + b2 * 1099511627776 : Nat) : Int) ((b3 : Int) * 4294967296) = ((b0 * 72057594037927936 + b1 * 281474976710656 + b2 * 1099511627776 + b3 * 4294967296 : Nat) : Int) := by
    have := or_join (b0 * 65536 + b1 * 256 + b2) 40 (b3 * 4294967296) (by omega) (by omega)
    rw [show (b0 * 65536 + b1 * 256 + b2) * 2 ^ 40 = b0 * 72057594037927936 + b1 * 281474976710656 + b2 * 1099511627776 from by omega] at this
    exact this
  have e4 : bits .or .u64 ((b0 * 72057594037927936 + b1 * 281474976710656 + b2 * 1099511627776 + b3 * 4294967296 : Nat) : Int) ((b4 : Int) * 16777216) = ((b0 * 72057594037927936 + b1 * 281474976710656 + b2 * 1099511627776 + b3 * 4294967296 + b4 * 16777216 : Nat) : Int) := by
    have := or_join (b0 * 16777216 + b1 * 65536 + b2 * 256 + b3) 32 (b4 * 16777216) (by omega) (by omega)
    rw [show (b0 * 16777216 + b1 * 65536 + b2 * 256 + b3) * 2 ^ 32 = b0 * 72057594037927936 + b1 * 281474976710656 + b2 * 1099511627776 + b3 * 4294967296 from by omega] at this
    exact this
  have e5 : bits .or .u64 ((b0 * 72057594037927936 + b1 * 281474976710656 + b2 * 1099511627776 + b3 * 4294967296 + b4 * 16777216 : Nat) : Int) ((b5 : Int) * 65536) = ((b0 * 72057594037927936 + b1 * 281474976710656 + b2 * 1099511627776 + b3 * 4294967296 + b4 * 16777216 + b5 * 65536 : Nat) : Int) := by
    have := or_join (b0 * 4294967296 + b1 * 16777216 + b2 * 65536 + b3 * 256 + b4) 24 (b5 * 65536) (by omega) (by omega)
    rw [show (b0 * 4294967296 + b1 * 16777216 + b2 * 65536 + b3 * 256 + b4) * 2 ^ 24 = b0 * 72057594037927936 + b1 * 281474976710656 + b2 * 1099511627776 + b3 * 4294967296 + b4 * 16777216 from by omega] at this
    exact this
  have e6 : bits .or .u64 ((b0 * 72057594037927936 + b1 * 281474976710656 + b2 * 1099511627776 + b3 * 4294967296 + b4 * 16777216 + b5 * 65536 : Nat) : Int) ((b6 : Int) * 256) = ((b0 * 72057594037927936 + b1 * 281474976710656 + b2 * 1099511627776 + b3 * 4294967296 + b4 * 16777216 + b5 * 65536 + b6 * 256 : Nat) : Int) := by
    have := or_join (b0 * 1099511627776 + b1 * 4294967296 + b2 * 16777216 + b3 * 65536 + b4 * 256 + b5) 16 (b6 * 256) (by omega) (by omega)
    rw [show (b0 * 1099511627776 + b1 * 4294967296 + b2 * 16777216 + b3 * 65536 + b4 * 256 + b5) * 2 ^ 16 = b0 * 72057594037927936 + b1 * 281474976710656 + b2 * 1099511627776 + b3 * 4294967296 + b4 * 16777216 + b5 * 65536 from by omega] at this
    exact this
  have e7 : bits .or .u64 ((b0 * 72057594037927936 + b1 * 281474976710656 + b2 * 1099511627776 + b3 * 4294967296 + b4 * 16777216 + b5 * 65536 + b6 * 256 : Nat) : Int) (b7 : Int) = ((b0 * 72057594037927936 + b1 * 281474976710656 + b2 * 1099511627776 + b3 * 4294967296 + b4 * 16777216 + b5 * 65536 + b6 * 256 + b7 : Nat) : Int) := by
    have := or_join (b0 * 281474976710656 + b1 * 1099511627776 + b2 * 4294967296 + b3 * 16777216 + b4 * 65536 + b5 * 256 + b6) 8 (b7) (by omega) (by omega)
    rw [show (b0 * 281474976710656 + b1 * 1099511627776 + b2 * 4294967296 + b3 * 16777216 + b4 * 65536 + b5 * 256 + b6) * 2 ^ 8 = b0 * 72057594037927936 + b1 * 281474976710656 + b2 * 1099511627776 + b3 * 4294967296 + b4 * 16777216 + b5 * 65536 + b6 * 256 from by omega] at this
    exact this
  rw [show (0 : Int) = ((0 : Nat) : Int) from rfl, e0, e1, e2, e3, e4, e5, e6, e7]
end Go.Proofs.YthnhbnakpmkppaaGreat.Ma
end
section
set_option linter.all false
namespace Sp
open Go Go.Proofs Sx Go.Proofs.YthnhbnakpmkppaaGreat.Ma
def HighS : Con := .pure Nat (fun n => [.i .i64 (n : Int)]) (fun n => n ≤ 64) fun n => .i .u64 (topN n : Int)
def wid (v6 : Bool) : Int := if v6 = true then 128 else 32
def c0 (v6 : Bool) : Nat := if v6 = true then 64 else 32
def c1 (v6 : Bool) : Nat := if v6 = true then 64 else 0
def clamp (v6 : Bool) (n : Int) : Nat := (max 0 (min n (wid v6))).toNat
def ok64 (n : Nat) : Prop := n < 18446744073709551616
def WidthS : Con := .pure Bool (fun b => [.b b]) (fun _ => True) fun b => .i .i64 (wid b)
def OnesS : Con := .pure (Nat × Bool) (fun x => [.i .i64 (x.1 : Int), .i .i64 (wid x.2)]) (fun x => (x.1 : Int) ≤ wid x.2) fun x => .v (.agg [.l (.i .u64 (onesN (c0 x.2) (min x.1 64) : Nat)), .l (.i .u64 (onesN (c1 x.2) (x.1 - 64) : Nat))])
@[reducible] def aV (x : Nat × Nat × Bool) : List A := [.l (.i .u64 (x.1 : Nat)), .l (.i .u64 (x.2.1 : Nat)), .l (.b x.2.2)]
def ReadS : Con := .pure (Nat × Nat × Bool) (fun x => [.agg (aV x)]) (fun x => ok64 x.1 ∧ ok64 x.2.1) fun x => .v (.agg [.l (.i .u64 (keepN x.1 (c0 x.2.2) : Nat)), .l (.i .u64 (keepN x.2.1 (c1 x.2.2) : Nat))])
def TailS : Con := .pure ((Nat × Nat × Bool) × Int) (fun x => [.agg (aV x.1), .i .i64 x.2]) (fun x => True) fun x => .v (.agg [.l (.i .u64 (onesN (c0 x.1.2.2) (min (clamp x.1.2.2 x.2) 64) : Nat)), .l (.i .u64 (onesN (c1 x.1.2.2) (clamp x.1.2.2 x.2 - 64) : Nat))])
def MaskS : Con := .pure ((Nat × Nat × Bool) × Int) (fun x => [.agg (aV x.1), .i .i64 x.2]) (fun x => ok64 x.1.1 ∧ ok64 x.1.2.1) fun x => .v (.agg (aV (keepN x.1.1 (min (clamp x.1.2.2 x.2) 64), keepN x.1.2.1 (clamp x.1.2.2 x.2 - 64), x.1.2.2)))
@[reducible] def pV (x : (Nat × Nat × Bool) × Int) : List A := aV x.1 ++ [.l (.i .i64 x.2)]
def ofP (a : Nat × Nat × Bool) (n : Int) : (Nat × Nat × Bool) × Int := ((keepN a.1 (min (clamp a.2.2 n) 64), keepN a.2.1 (clamp a.2.2 n - 64), a.2.2), (clamp a.2.2 n : Nat))
def OfS : Con := .pure ((Nat × Nat × Bool) × Int) (fun x => [.agg (aV x.1), .i .i64 x.2]) (fun x => ok64 x.1.1 ∧ ok64 x.1.2.1) fun x => .v (.agg (pV (ofP x.1 x.2)))
def saneB (p : (Nat × Nat × Bool) × Int) : Bool := decide (p = ofP p.1 p.2)
def SaneS : Con := .pure ((Nat × Nat × Bool) × Int) (fun x => [.agg (pV x)]) (fun x => ok64 x.1.1 ∧ ok64 x.1.2.1) fun x => .b (saneB x)
def Lq : FuncId → Nat → Lan
  | 191, _ => .unroll 3
  | 117, _ => .unroll 3
  | 105, _ => .unroll 3
  | _, _ => .none
def L0 : List (Nat × Con) := []
def L1 : List (Nat × Con) := (245, HighS) :: L0
def L2 : List (Nat × Con) := (116, WidthS) :: L1
def L3 : List (Nat × Con) := (191, OnesS) :: L2
def L4 : List (Nat × Con) := (117, ReadS) :: L3
def L5 : List (Nat × Con) := (185, TailS) :: L4
def L6 : List (Nat × Con) := (105, MaskS) :: L5
def L7 : List (Nat × Con) := (78, OfS) :: L6
def L8 : List (Nat × Con) := (38, SaneS) :: L7
end Sp
end
section
set_option linter.all false
set_option maxRecDepth 100000
namespace Sp
open Go Go.Proofs Sx
def T_high  : Prop :=
 ∀ (x : Nat), x <= (64 : Nat) -> ifB (decide ((↑x : Int) = (0 : Int))) (∃ (y : Unit), True /\ (0 : Int) = (↑(YthnhbnakpmkppaaGreat.Ma.topN x) : Int) /\ True) (((-9223372036854775808 : Int) <= (64 :
 Int) - (↑x : Int) /\ (64 : Int) - (↑x : Int) <= (9223372036854775807 : Int)) /\ (0 : Int) <= ((64 : Int) - (↑x : Int)) % (18446744073709551616 : Int) /\ ∃ (y : Unit), True /\ (18446744073709551615 :
 Int) * (2 : Int) ^ min (((64 : Int) - (↑x : Int)) % (18446744073709551616 : Int)).toNat (64 : Nat) % (18446744073709551616 : Int) = (↑(YthnhbnakpmkppaaGreat.Ma.topN x) : Int) /\ True)
def T_width  : Prop :=
 ∀ (x : Bool), True -> ifB x (∃ (y : Unit), True /\ (128 : Int) = wid x /\ True) (∃ (y : Unit), True /\ (32 : Int) = wid x /\ True)
def T_ones  : Prop :=
 ∀ (x : Nat × Bool), (↑x.1 : Int) <= wid x.2 -> ((-9223372036854775808 : Int) <= (0 : Int) /\ (0 : Int) <= (9223372036854775807 : Int)) /\ ((-9223372036854775808 : Int) <= (↑x.1 : Int) - (0 : Int) /\
 (↑x.1 : Int) - (0 : Int) <= (9223372036854775807 : Int)) /\ ((-9223372036854775808 : Int) <= (0 : Int) /\ (0 : Int) <= (9223372036854775807 : Int)) /\ ((-9223372036854775808 : Int) <= wid x.2 - (0 :
 Int) /\ wid x.2 - (0 : Int) <= (9223372036854775807 : Int)) /\ ∃ (x_1 : Nat), max (0 : Int) (min (wid x.2 - (0 : Int)) (64 : Int)) = (↑x_1 : Int) /\ x_1 <= (64 : Nat) /\ ∀ (y : Unit), True -> ∃ (x_2 :
 Nat), max (0 : Int) (min ((↑x.1 : Int) - (0 : Int)) (64 : Int)) = (↑x_2 : Int) /\ x_2 <= (64 : Nat) /\ ∀ (y : Unit), True -> ((-9223372036854775808 : Int) <= (1 : Int) /\ (1 : Int) <=
 (9223372036854775807 : Int)) /\ ((-9223372036854775808 : Int) <= (64 : Int) /\ (64 : Int) <= (9223372036854775807 : Int)) /\ ((-9223372036854775808 : Int) <= (↑x.1 : Int) - (64 : Int) /\ (↑x.1 : Int)
 - (64 : Int) <= (9223372036854775807 : Int)) /\ ((-9223372036854775808 : Int) <= (64 : Int) /\ (64 : Int) <= (9223372036854775807 : Int)) /\ ((-9223372036854775808 : Int) <= wid x.2 - (64 : Int) /\
 wid x.2 - (64 : Int) <= (9223372036854775807 : Int)) /\ ∃ (x_3 : Nat), max (0 : Int) (min (wid x.2 - (64 : Int)) (64 : Int)) = (↑x_3 : Int) /\ x_3 <= (64 : Nat) /\ ∀ (y : Unit), True -> ∃ (x_4 : Nat),
 max (0 : Int) (min ((↑x.1 : Int) - (64 : Int)) (64 : Int)) = (↑x_4 : Int) /\ x_4 <= (64 : Nat) /\ ∀ (y : Unit), True -> ((-9223372036854775808 : Int) <= (2 : Int) /\ (2 : Int) <= (9223372036854775807
 : Int)) /\ ∃ (y : Unit), True /\ bits BinOp.andNot IntKind.u64 (↑(YthnhbnakpmkppaaGreat.Ma.topN x_1) : Int) (↑(YthnhbnakpmkppaaGreat.Ma.topN x_2) : Int) = (↑(YthnhbnakpmkppaaGreat.Ma.onesN (c0 x.2)
 (min x.1 (64 : Nat))) : Int) /\ bits BinOp.andNot IntKind.u64 (↑(YthnhbnakpmkppaaGreat.Ma.topN x_3) : Int) (↑(YthnhbnakpmkppaaGreat.Ma.topN x_4) : Int) = (↑(YthnhbnakpmkppaaGreat.Ma.onesN (c1 x.2)
 (x.1 - (64 : Nat))) : Int) /\ True
def T_read  : Prop :=
 ∀ (x : Nat × Nat × Bool), x.1.succ.le (18446744073709551616 : Nat) /\ x.2.1.succ.le (18446744073709551616 : Nat) -> ∃ (x_1 : Bool), x.2.2 = x_1 /\ True /\ ∀ (y : Unit), True -> ∃ (x_2 : Nat × Bool),
 (0 : Int) = (↑x_2.1 : Int) /\ wid x_1 = wid x_2.2 /\ (↑x_2.1 : Int) <= wid x_2.2 /\ ∀ (y : Unit), True -> ((-9223372036854775808 : Int) <= (1 : Int) /\ (1 : Int) <= (9223372036854775807 : Int)) /\
 ((-9223372036854775808 : Int) <= (2 : Int) /\ (2 : Int) <= (9223372036854775807 : Int)) /\ ∃ (y : Unit), True /\ bits BinOp.and IntKind.u64 (↑x.1 : Int) (↑(YthnhbnakpmkppaaGreat.Ma.onesN (c0 x_2.2)
 (min x_2.1 (64 : Nat))) : Int) = (↑(YthnhbnakpmkppaaGreat.Ma.keepN x.1 (c0 x.2.2)) : Int) /\ bits BinOp.and IntKind.u64 (↑x.2.1 : Int) (↑(YthnhbnakpmkppaaGreat.Ma.onesN (c1 x_2.2) (x_2.1 - (64 :
 Nat))) : Int) = (↑(YthnhbnakpmkppaaGreat.Ma.keepN x.2.1 (c1 x.2.2)) : Int) /\ True
def T_tail  : Prop :=
 ∀ (x : (Nat × Nat × Bool) × Int), True -> ∃ (x_1 : Bool), x.1.2.2 = x_1 /\ True /\ ∀ (y : Unit), True -> ∃ (x_2 : Nat × Bool), max (0 : Int) (min x.2 (wid x_1)) = (↑x_2.1 : Int) /\ wid x_1 = wid x_2.2
 /\ (↑x_2.1 : Int) <= wid x_2.2 /\ ∀ (y : Unit), True -> ∃ (y : Unit), True /\ (↑(YthnhbnakpmkppaaGreat.Ma.onesN (c0 x_2.2) (min x_2.1 (64 : Nat))) : Int) = (↑(YthnhbnakpmkppaaGreat.Ma.onesN (c0
 x.1.2.2) (min (clamp x.1.2.2 x.2) (64 : Nat))) : Int) /\ (↑(YthnhbnakpmkppaaGreat.Ma.onesN (c1 x_2.2) (x_2.1 - (64 : Nat))) : Int) = (↑(YthnhbnakpmkppaaGreat.Ma.onesN (c1 x.1.2.2) (clamp x.1.2.2 x.2 -
 (64 : Nat))) : Int) /\ True
def T_mask  : Prop :=
 ∀ (x : (Nat × Nat × Bool) × Int), x.1.1.succ.le (18446744073709551616 : Nat) /\ x.1.2.1.succ.le (18446744073709551616 : Nat) -> ∃ (x_1 : Nat × Nat × Bool), (↑x.1.1 : Int) = (↑x_1.1 : Int) /\ (↑x.1.2.1
 : Int) = (↑x_1.2.1 : Int) /\ x.1.2.2 = x_1.2.2 /\ (x_1.1.succ.le (18446744073709551616 : Nat) /\ x_1.2.1.succ.le (18446744073709551616 : Nat)) /\ ∀ (y : Unit), True -> ∃ (x_2 : (Nat × Nat × Bool) ×
 Int), (↑x.1.1 : Int) = (↑x_2.1.1 : Int) /\ (↑x.1.2.1 : Int) = (↑x_2.1.2.1 : Int) /\ x.1.2.2 = x_2.1.2.2 /\ x.2 = x_2.2 /\ True /\ ∀ (y : Unit), True -> ((-9223372036854775808 : Int) <= (1 : Int) /\ (1
 : Int) <= (9223372036854775807 : Int)) /\ ((-9223372036854775808 : Int) <= (2 : Int) /\ (2 : Int) <= (9223372036854775807 : Int)) /\ ∃ (y : Unit), True /\ bits BinOp.andNot IntKind.u64
 (↑(YthnhbnakpmkppaaGreat.Ma.keepN x_1.1 (c0 x_1.2.2)) : Int) (↑(YthnhbnakpmkppaaGreat.Ma.onesN (c0 x_2.1.2.2) (min (clamp x_2.1.2.2 x_2.2) (64 : Nat))) : Int) = (↑(YthnhbnakpmkppaaGreat.Ma.keepN x.1.1
 (min (clamp x.1.2.2 x.2) (64 : Nat))) : Int) /\ bits BinOp.andNot IntKind.u64 (↑(YthnhbnakpmkppaaGreat.Ma.keepN x_1.2.1 (c1 x_1.2.2)) : Int) (↑(YthnhbnakpmkppaaGreat.Ma.onesN (c1 x_2.1.2.2) (clamp
 x_2.1.2.2 x_2.2 - (64 : Nat))) : Int) = (↑(YthnhbnakpmkppaaGreat.Ma.keepN x.1.2.1 (clamp x.1.2.2 x.2 - (64 : Nat)), x.1.2.2).1 : Int) /\ x.1.2.2 = (YthnhbnakpmkppaaGreat.Ma.keepN x.1.2.1 (clamp
 x.1.2.2 x.2 - (64 : Nat)), x.1.2.2).2 /\ True
def T_of  : Prop :=
 ∀ (x : (Nat × Nat × Bool) × Int), x.1.1.succ.le (18446744073709551616 : Nat) /\ x.1.2.1.succ.le (18446744073709551616 : Nat) -> ∃ (x_1 : Bool), x.1.2.2 = x_1 /\ True /\ ∀ (y : Unit), True -> ∃ (x_2 :
 (Nat × Nat × Bool) × Int), (↑x.1.1 : Int) = (↑x_2.1.1 : Int) /\ (↑x.1.2.1 : Int) = (↑x_2.1.2.1 : Int) /\ x.1.2.2 = x_2.1.2.2 /\ max (0 : Int) (min x.2 (wid x_1)) = x_2.2 /\ (x_2.1.1.succ.le
 (18446744073709551616 : Nat) /\ x_2.1.2.1.succ.le (18446744073709551616 : Nat)) /\ ∀ (y : Unit), True -> ∃ (y : Unit), True /\ (↑(YthnhbnakpmkppaaGreat.Ma.keepN x_2.1.1 (min (clamp x_2.1.2.2 x_2.2)
 (64 : Nat))) : Int) = (↑(ofP x.1 x.2).1.1 : Int) /\ (↑(YthnhbnakpmkppaaGreat.Ma.keepN x_2.1.2.1 (clamp x_2.1.2.2 x_2.2 - (64 : Nat)), x_2.1.2.2).1 : Int) = (↑(ofP x.1 x.2).1.2.1 : Int) /\
 (YthnhbnakpmkppaaGreat.Ma.keepN x_2.1.2.1 (clamp x_2.1.2.2 x_2.2 - (64 : Nat)), x_2.1.2.2).2 = (ofP x.1 x.2).1.2.2 /\ max (0 : Int) (min x.2 (wid x_1)) = (ofP x.1 x.2).2 /\ True
def T_sane  : Prop :=
 ∀ (x : (Nat × Nat × Bool) × Int), x.1.1.succ.le (18446744073709551616 : Nat) /\ x.1.2.1.succ.le (18446744073709551616 : Nat) -> ∃ (x_1 : (Nat × Nat × Bool) × Int), (↑x.1.1 : Int) = (↑x_1.1.1 : Int) /\
 (↑x.1.2.1 : Int) = (↑x_1.1.2.1 : Int) /\ x.1.2.2 = x_1.1.2.2 /\ x.2 = x_1.2 /\ (x_1.1.1.succ.le (18446744073709551616 : Nat) /\ x_1.1.2.1.succ.le (18446744073709551616 : Nat)) /\ ∀ (y : Unit), True ->
 ∃ (y : Unit), True /\ (decide ((↑x.1.1 : Int) = (↑(ofP x_1.1 x_1.2).1.1 : Int)) && (decide ((↑x.1.2.1 : Int) = (↑(ofP x_1.1 x_1.2).1.2.1 : Int)) && (decide (x.1.2.2 = (ofP x_1.1 x_1.2).1.2.2) &&
 decide (x.2 = (ofP x_1.1 x_1.2).2)))) = saneB x /\ True
theorem o_high : owes Tryz.prog (tab L0) Lq 0 245 Tryz.f245 HighS = T_high := by kernel_rfl
theorem o_width : owes Tryz.prog (tab L0) Lq 0 116 Tryz.f116 WidthS = T_width := by kernel_rfl
theorem o_ones : owes Tryz.prog (tab L2) Lq 0 191 Tryz.f191 OnesS = T_ones := by kernel_rfl
theorem o_read : owes Tryz.prog (tab L3) Lq 0 117 Tryz.f117 ReadS = T_read := by kernel_rfl
theorem o_tail : owes Tryz.prog (tab L3) Lq 0 185 Tryz.f185 TailS = T_tail := by kernel_rfl
theorem o_mask : owes Tryz.prog (tab L5) Lq 1 105 Tryz.f105 MaskS = T_mask := by kernel_rfl
theorem o_of : owes Tryz.prog (tab L6) Lq 1 78 Tryz.f78 OfS = T_of := by kernel_rfl
theorem o_sane : owes Tryz.prog (tab L7) Lq 1 38 Tryz.f38 SaneS = T_sane := by kernel_rfl
end Sp
end
