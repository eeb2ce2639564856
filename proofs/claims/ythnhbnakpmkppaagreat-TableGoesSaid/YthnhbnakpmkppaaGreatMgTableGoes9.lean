import Derived.Test.YthnhbnakpmkppaaGreatMgTableGoes6
import Derived.Test.YthnhbnakpmkppaaGreatMgTableGoes8
section
set_option linter.all false
set_option maxRecDepth 10000
namespace Sp
abbrev Nd := Int × Int × Int × Bool × Int
def nd0 : Nd := (0, 0, 0, false, 0)
inductive Tr | nil | node (i : Nat) (e : Option Int) (l r : Tr)
namespace Tr
def ix : Tr → Int
  | nil => -1
  | node i _ _ _ => i
def ids : Tr → List Nat
  | nil => []
  | node i _ l r => i :: (l.ids ++ r.ids)
def kid (b : Bool) (l r : Tr) : Tr := if b = true then r else l
def go : Tr → Bool → Tr
  | nil, _ => nil
  | node _ _ l r, b => if b = true then r else l
def sub (t : Tr) (q : List Bool) : Tr := q.foldl go t
def ent : Tr → Option Int
  | nil => none
  | node _ e _ _ => e
def get (t : Tr) (q : List Bool) : Option Int := (t.sub q).ent
def Rep (ar : List Nd) : Int → Tr → Prop
  | _, nil => True
  | up, node i e l r => (i < ar.length ∧ ∃ v, ar.getD i nd0 = (l.ix, r.ix, up, e.isSome, v) ∧ ∀ x, e = some x → v = x) ∧ Rep ar i l ∧ Rep ar i r
def Live : Tr → Prop
  | nil => True
  | node _ e l r => (e.isSome = true ∨ l ≠ nil ∨ r ≠ nil) ∧ l.Live ∧ r.Live
def Deep : Nat → Tr → Prop
  | _, nil => True
  | 0, node _ _ l r => l = nil ∧ r = nil
  | n + 1, node _ _ l r => Deep n l ∧ Deep n r
def own (pre : List Bool) : Option Int → List (List Bool × Int)
  | some v => [(pre, v)]
  | none => []
def lst : Tr → List Bool → List (List Bool × Int)
  | nil, _ => []
  | node _ e l r, pre => own pre e ++ (l.lst (pre ++ [false]) ++ r.lst (pre ++ [true]))
theorem sub_nil : ∀ q : List Bool, nil.sub q = nil
  | [] => rfl
  | _ :: q => sub_nil q
theorem sub_cons (t : Tr) (b : Bool) (q : List Bool) : t.sub (b :: q) = (t.go b).sub q := rfl
theorem sub_app (t : Tr) (p q : List Bool) : t.sub (p ++ q) = (t.sub p).sub q := List.foldl_append ..
theorem sub_snoc (t : Tr) (p : List Bool) (b : Bool) {i : Nat} {e : Option Int} {l r : Tr} (h : t.sub p = node i e l r) : t.sub (p ++ [b]) = if b = true then r else l := by
  rw [sub_app, h]
  rfl
theorem ix_nil {t : Tr} : t.ix = -1 ↔ t = nil := by
  cases t with
  | nil => simp [ix]
  | node i e l r => simp only [ix]; constructor <;> intro h
                    · omega
                    · cases h
theorem ix_ge (t : Tr) : -1 ≤ t.ix := by cases t <;> simp only [ix] <;> omega
theorem rep_sub {ar : List Nd} : ∀ {q : List Bool} {t : Tr} {up : Int} {i : Nat} {e : Option Int} {l r : Tr}, t.Rep ar up → t.sub q = node i e l r →
    i < ar.length ∧ ∃ v up', ar.getD i nd0 = (l.ix, r.ix, up', e.isSome, v) ∧ (∀ x, e = some x → v = x) ∧ (q = [] → up' = up) ∧ ∀ q' b, q = q' ++ [b] → up' = (t.sub q').ix
  | [], t, up, i, e, l, r, h, hs => by
    obtain rfl : t = node i e l r := hs
    obtain ⟨⟨h1, v, h2, h3⟩, _⟩ := h
    exact ⟨h1, v, up, h2, h3, fun _ => rfl, fun q' b hq => by simp at hq⟩
  | b :: q, nil, up, i, e, l, r, h, hs => by rw [sub_nil] at hs; cases hs
  | b :: q, node j f l' r', up, i, e, l, r, h, hs => by
    obtain ⟨_, hl, hr⟩ := h
    have fin : ∀ t' : Tr, t'.Rep ar j → t'.sub q = node i e l r → (∀ q', (node j f l' r').sub (b :: q') = t'.sub q') → i < ar.length ∧ ∃ v up', ar.getD i nd0 = (l.ix, r.ix, up', e.isSome, v) ∧ (∀ x, e = some x → v = x) ∧ (b :: q = [] → up' = up) ∧ ∀ q' c, b :: q = q' ++ [c] → up' = ((node j f l' r').sub q').ix := by
      intro t' ht hs' hstep
      obtain ⟨h1, v, up', h2, h3, h4, h5⟩ := rep_sub ht hs'
      refine ⟨h1, v, up', h2, h3, nofun, fun q' c hq => ?_⟩
      cases q' with
      | nil =>
        simp only [List.nil_append, List.cons.injEq] at hq
        rw [h4 hq.2]
        rfl
      | cons d q' =>
        simp only [List.cons_append, List.cons.injEq] at hq
        rw [← hq.1, hstep, h5 q' c hq.2]
    cases b with
    | true => exact fin r' hr hs fun q' => rfl
    | false => exact fin l' hl hs fun q' => rfl
theorem deep_sub : ∀ {q : List Bool} {t : Tr} {n : Nat}, t.Deep n → t.sub q ≠ nil → q.length ≤ n ∧ (t.sub q).Deep (n - q.length)
  | [], t, n, h, _ => ⟨Nat.zero_le _, h⟩
  | b :: q, nil, n, h, hs => absurd (sub_nil _) hs
  | b :: q, node i e l r, 0, h, hs => by
    obtain ⟨rfl, rfl⟩ := h
    refine absurd ?_ hs
    rw [sub_cons]
    show (if b = true then nil else nil).sub q = nil
    rw [ite_self, sub_nil]
  | b :: q, node i e l r, n + 1, h, hs => by
    have h' : ((node i e l r).go b).Deep n := by cases b; exact h.1; exact h.2
    obtain ⟨h1, h2⟩ := deep_sub (q := q) h' hs
    exact ⟨by rw [List.length_cons]; omega, by rw [List.length_cons, show n + 1 - (q.length + 1) = n - q.length by omega]; exact h2⟩
/-! ### the order -/
end Tr
def bLt : List Bool → List Bool → Prop
  | [], [] => False
  | [], _ :: _ => True
  | _ :: _, [] => False
  | false :: a, false :: b => bLt a b
  | true :: a, true :: b => bLt a b
  | false :: _, true :: _ => True
  | true :: _, false :: _ => False
theorem bLt_irrefl : ∀ a, ¬ bLt a a
  | [] => id
  | false :: a => bLt_irrefl a
  | true :: a => bLt_irrefl a
theorem bLt_trans : ∀ {a b c}, bLt a b → bLt b c → bLt a c
  | [], [], _, h, _ => h.elim
  | [], _ :: _, [], _, h => by simp [bLt] at h
  | [], _ :: _, _ :: _, _, _ => trivial
  | _ :: _, [], _, h, _ => by simp [bLt] at h
  | _ :: _, _ :: _, [], _, h => by simp [bLt] at h
  | false :: a, false :: b, false :: c, h, k => bLt_trans (a := a) h k
  | false :: a, false :: b, true :: c, h, k => trivial
  | false :: a, true :: b, true :: c, h, k => trivial
  | false :: a, true :: b, false :: c, h, k => by simp [bLt] at k
  | true :: a, true :: b, true :: c, h, k => bLt_trans (a := a) h k
  | true :: a, true :: b, false :: c, h, k => by simp [bLt] at k
  | true :: a, false :: b, _, h, k => by simp [bLt] at h
theorem bLt_total : ∀ a b, bLt a b ∨ a = b ∨ bLt b a
  | [], [] => .inr (.inl rfl)
  | [], _ :: _ => .inl trivial
  | _ :: _, [] => .inr (.inr trivial)
  | false :: a, true :: b => .inl trivial
  | true :: a, false :: b => .inr (.inr trivial)
  | false :: a, false :: b => by
    rcases bLt_total a b with h | h | h
    · exact .inl h
    · exact .inr (.inl (by rw [h]))
    · exact .inr (.inr h)
  | true :: a, true :: b => by
    rcases bLt_total a b with h | h | h
    · exact .inl h
    · exact .inr (.inl (by rw [h]))
    · exact .inr (.inr h)
theorem bLt_app : ∀ (p a b : List Bool), bLt (p ++ a) (p ++ b) ↔ bLt a b
  | [], _, _ => Iff.rfl
  | false :: p, a, b => bLt_app p a b
  | true :: p, a, b => bLt_app p a b
theorem bLt_pre (p : List Bool) {q : List Bool} (h : q ≠ []) : bLt p (p ++ q) := by
  have := (bLt_app p [] q).2 (by cases q with | nil => exact absurd rfl h | cons b q => trivial)
  rwa [List.append_nil] at this
theorem sorted_same {α : Type} {r : α → α → Prop} (hi : ∀ a, ¬ r a a) (ht : ∀ a b c, r a b → r b c → r a c) : ∀ {l m : List α}, l.Pairwise r → m.Pairwise r → (∀ x, x ∈ l ↔ x ∈ m) → l = m
  | [], [], _, _, _ => rfl
  | [], y :: m, _, _, h => absurd ((h y).2 (by simp)) (by simp)
  | x :: l, [], _, _, h => absurd ((h x).1 (by simp)) (by simp)
  | x :: l, y :: m, hl, hm, h => by
    have hl := List.pairwise_cons.1 hl
    have hm := List.pairwise_cons.1 hm
    have hxy : x = y := by
      rcases List.mem_cons.1 ((h x).1 (by simp)) with e | e
      · exact e
      · rcases List.mem_cons.1 ((h y).2 (by simp)) with e2 | e2
        · exact e2.symm
        · exact absurd (ht _ _ _ (hl.1 y e2) (hm.1 x e)) (hi x)
    subst hxy
    congr 1
    refine sorted_same hi ht hl.2 hm.2 fun z => ?_
    constructor
    · intro hz
      rcases List.mem_cons.1 ((h z).1 (by simp [hz])) with e | e
      · subst e
        exact absurd (hl.1 z hz) (hi z)
      · exact e
    · intro hz
      rcases List.mem_cons.1 ((h z).2 (by simp [hz])) with e | e
      · subst e
        exact absurd (hm.1 z hz) (hi z)
      · exact e
abbrev Ent := List Bool × Int
def eLt (a b : Ent) : Prop := bLt a.1 b.1
theorem ent_same {l m : List Ent} (hl : l.Pairwise eLt) (hm : m.Pairwise eLt) (h : ∀ x, x ∈ l ↔ x ∈ m) : l = m := sorted_same (r := eLt) (fun a => bLt_irrefl a.1) (fun _ _ _ h k => bLt_trans h k) hl hm h
namespace Tr
theorem mem_own {pre q : List Bool} {v : Int} {e : Option Int} : (q, v) ∈ own pre e ↔ q = pre ∧ e = some v := by
  cases e with
  | none => simp [own]
  | some u => simp [own, eq_comm]
theorem mem_lst : ∀ {t : Tr} {pre q : List Bool} {v : Int}, (q, v) ∈ t.lst pre ↔ ∃ q', q = pre ++ q' ∧ t.get q' = some v
  | nil, pre, q, v => by simp [lst, get, sub_nil, ent]
  | node i e l r, pre, q, v => by
    rw [lst, List.mem_append, List.mem_append, mem_lst (t := l), mem_lst (t := r), mem_own]
    constructor
    · rintro (⟨rfl, h⟩ | ⟨q', rfl, h⟩ | ⟨q', rfl, h⟩)
      · exact ⟨[], by simp, h⟩
      · exact ⟨false :: q', by simp, h⟩
      · exact ⟨true :: q', by simp, h⟩
    · rintro ⟨q', rfl, h⟩
      cases q' with
      | nil => exact .inl ⟨by simp, h⟩
      | cons b q' =>
        cases b with
        | false => exact .inr (.inl ⟨q', by simp, h⟩)
        | true => exact .inr (.inr ⟨q', by simp, h⟩)
theorem lst_pre {t : Tr} {pre : List Bool} {x : Ent} (h : x ∈ t.lst pre) : ∃ q', x.1 = pre ++ q' := by
  obtain ⟨q', h1, _⟩ := (mem_lst (t := t) (q := x.1) (v := x.2)).1 h
  exact ⟨q', h1⟩
theorem lst_sorted : ∀ (t : Tr) (pre : List Bool), (t.lst pre).Pairwise eLt
  | nil, pre => List.Pairwise.nil
  | node i e l r, pre => by
    rw [lst]
    refine List.pairwise_append.2 ⟨?_, List.pairwise_append.2 ⟨lst_sorted l _, lst_sorted r _, fun x hx y hy => ?_⟩, fun x hx y hy => ?_⟩
    · cases e with
      | none => exact List.Pairwise.nil
      | some v => exact List.pairwise_singleton eLt (pre, v)
    · obtain ⟨a, ha⟩ := lst_pre hx
      obtain ⟨b, hb⟩ := lst_pre hy
      unfold eLt
      rw [ha, hb, List.append_assoc, List.append_assoc, bLt_app]
      trivial
    · obtain ⟨p, u⟩ := x
      obtain ⟨rfl, _⟩ := mem_own.1 hx
      have : ∃ q', q' ≠ [] ∧ y.1 = p ++ q' := by
        rcases List.mem_append.1 hy with hy | hy
        · obtain ⟨a, ha⟩ := lst_pre hy
          exact ⟨false :: a, by simp, by rw [ha, List.append_assoc]; rfl⟩
        · obtain ⟨a, ha⟩ := lst_pre hy
          exact ⟨true :: a, by simp, by rw [ha, List.append_assoc]; rfl⟩
      obtain ⟨q', h1, h2⟩ := this
      show bLt p y.1
      rw [h2]
      exact bLt_pre p h1
theorem lst_sub : ∀ (q : List Bool) (t : Tr) (pre : List Bool), (t.sub q).lst (pre ++ q) = (t.lst pre).filter fun x => (pre ++ q).isPrefixOf x.1 := by
  intro q t pre
  refine ent_same (lst_sorted _ _) ((lst_sorted _ _).filter _) fun x => ?_
  rw [List.mem_filter, List.isPrefixOf_iff_prefix]
  obtain ⟨p, v⟩ := x
  rw [mem_lst, mem_lst]
  constructor
  · rintro ⟨q', rfl, h⟩
    exact ⟨⟨q ++ q', by rw [List.append_assoc], by unfold get; rw [sub_app]; exact h⟩, ⟨q', rfl⟩⟩
  · rintro ⟨⟨q', rfl, h⟩, ⟨s, hs⟩⟩
    rw [List.append_assoc, List.append_cancel_left_eq] at hs
    subst hs
    refine ⟨s, by rw [List.append_assoc], ?_⟩
    unfold get at h ⊢
    rwa [sub_app] at h
def abv (t : Tr) (q : List Bool) : Nat → List Ent
  | 0 => own [] (t.get [])
  | n + 1 => t.abv q n ++ own (q.take (n + 1)) (t.get (q.take (n + 1)))
theorem mem_abv {t : Tr} {q p : List Bool} {v : Int} : ∀ {n : Nat}, n ≤ q.length → ((p, v) ∈ t.abv q n ↔ (∃ k, k ≤ n ∧ p = q.take k) ∧ t.get p = some v)
  | 0, _ => by
    unfold abv
    rw [mem_own]
    constructor
    · rintro ⟨rfl, h⟩
      exact ⟨⟨0, Nat.le_refl 0, by simp⟩, h⟩
    · rintro ⟨⟨k, hk, rfl⟩, h⟩
      obtain rfl : k = 0 := by omega
      exact ⟨by simp, h⟩
  | n + 1, hn => by
    unfold abv
    rw [List.mem_append, mem_abv (by omega), mem_own]
    constructor
    · rintro (⟨⟨k, hk, rfl⟩, h⟩ | ⟨rfl, h⟩)
      · exact ⟨⟨k, by omega, rfl⟩, h⟩
      · exact ⟨⟨n + 1, Nat.le_refl _, rfl⟩, h⟩
    · rintro ⟨⟨k, hk, rfl⟩, h⟩
      by_cases e : k = n + 1
      · subst e
        exact .inr ⟨rfl, h⟩
      · exact .inl ⟨⟨k, by omega, rfl⟩, h⟩
theorem abv_sorted (t : Tr) (q : List Bool) : ∀ n, n ≤ q.length → (t.abv q n).Pairwise eLt
  | 0, _ => by
    unfold abv
    cases t.get [] with
    | none => exact List.Pairwise.nil
    | some v => exact List.pairwise_singleton eLt _
  | n + 1, hn => by
    unfold abv
    refine List.pairwise_append.2 ⟨abv_sorted t q n (by omega), ?_, fun x hx y hy => ?_⟩
    · cases t.get (q.take (n + 1)) with
      | none => exact List.Pairwise.nil
      | some v => exact List.pairwise_singleton eLt _
    · obtain ⟨p, v⟩ := x
      obtain ⟨p', v'⟩ := y
      obtain ⟨⟨k, hk, rfl⟩, _⟩ := (mem_abv (by omega)).1 hx
      obtain ⟨rfl, _⟩ := mem_own.1 hy
      show bLt (q.take k) (q.take (n + 1))
      have e : q.take (n + 1) = q.take k ++ (q.drop k).take (n + 1 - k) := by
        rw [← List.take_add, show k + (n + 1 - k) = n + 1 by omega]
      rw [e]
      refine bLt_pre _ fun h => ?_
      have := congrArg List.length h
      rw [List.length_take, List.length_drop] at this
      simp at this
      omega
theorem abv_lst (t : Tr) (q : List Bool) : t.abv q q.length = (t.lst []).filter fun x => x.1.isPrefixOf q := by
  refine ent_same (abv_sorted t q _ (Nat.le_refl _)) ((lst_sorted _ _).filter _) fun x => ?_
  obtain ⟨p, v⟩ := x
  rw [mem_abv (Nat.le_refl _), List.mem_filter, List.isPrefixOf_iff_prefix, mem_lst]
  constructor
  · rintro ⟨⟨k, hk, rfl⟩, h⟩
    exact ⟨⟨_, rfl, h⟩, List.take_prefix _ _⟩
  · rintro ⟨⟨q', hq, h⟩, hp⟩
    rw [List.nil_append] at hq
    subst hq
    exact ⟨⟨p.length, hp.length_le, List.prefix_iff_eq_take.1 hp⟩, h⟩
end Tr
end Sp
end
section
set_option linter.all false
namespace Sp
open Go Go.Proofs Sx Go.Proofs.YthnhbnakpmkppaaGreat.Ma
@[reducible] def ndK : List Kd := [.i .i64, .i .i64, .i .i64, .b, .i .i64]
abbrev Pl := Int × Int × Int × Bool × Int
@[reducible] def plK : List Kd := [.i .i64, .i .u64, .i .u64, .b, .i .i64]
def tsel (t0 t1 : Tr) (v6 : Bool) : Tr := if v6 = true then t1 else t0
def LiveB (t : Tr) (p : List Bool) : Prop := ∀ q i e l r, q ≠ [] → q ≠ p → t.sub q = .node i e l r → e.isSome = true ∨ l ≠ .nil ∨ r ≠ .nil
structure TRb (ar : List Nd) (fr : List Int) (t0 t1 : Tr) : Prop where
  root0 : ∃ e l r, t0 = .node 0 e l r
  root1 : ∃ e l r, t1 = .node 1 e l r
  rep0 : t0.Rep ar (-1)
  rep1 : t1.Rep ar (-1)
  deep0 : t0.Deep 32
  deep1 : t1.Deep 128
  ids : (t0.ids ++ t1.ids ++ fr.map Int.toNat).Nodup
  frl : ∀ x ∈ fr, 0 ≤ x ∧ x.toNat < ar.length
  big : ar.length ≤ 2000000 ∧ fr.length ≤ 2000000
structure TR (ar : List Nd) (fr : List Int) (t0 t1 : Tr) : Prop extends TRb ar fr t0 t1 where
  live : ∀ v6, LiveB (tsel t0 t1 v6) []
structure Trie where
  ar : List Nd
  fr : List Int
  n : Int
  t0 : Tr
  t1 : Tr
@[reducible] def Trie.ok (t : Trie) : Prop := TR t.ar t.fr t.t0 t.t1
@[reducible] def trC (a f : Nat) (t : Trie) : Ob := .cells [.f a t.ar.length, .f f t.fr.length, .l (.i .i64 t.n)]
@[reducible] def trRo (t : Trie) : List Ob := [trC 1 2 t, .row false ndK t.ar, .row false intK t.fr]
def Trie.sel (t : Trie) (p : Pf) : Tr := tsel t.t0 t.t1 p.2.2.1
def Trie.at' (t : Trie) (p : Pf) : Tr := if saneP p = true then (t.sel p).sub (bitsP p) else .nil
def FindT : Con := .look (Trie × Pf) (fun x => [.one (.p 0 0), .agg (pfV x.2)]) (fun x => trRo x.1) (fun x => x.1.ok ∧ wfP x.2) fun x => .i .i64 (x.1.at' x.2).ix
def toR (v6 : Bool) (x : Ent) : Rt := mkR (pfx v6 x.1) x.2
def Trie.above (t : Trie) (p : Pf) : List Rt := if saneP p = true then ((t.sel p).abv (bitsP p) (bitsP p).length).map (toR p.2.2.1) else []
def Trie.under (t : Trie) (p : Pf) : List Rt := if saneP p = true then (((t.sel p).sub (bitsP p)).lst (bitsP p)).map (toR p.2.2.1) else []
def kids : Tr → Bool
  | .nil => false
  | .node _ _ l r => !(decide (l.ix = -1) && decide (r.ix = -1))
def RootZ : Con := .pure Bool (fun b => [.b b]) (fun _ => True) fun b => .i .i64 (if b = true then 1 else 0)
def MadeT : Con := .look Trie (fun _ => [.one (.p 0 0)]) trRo Trie.ok fun _ => .b true
def GetT : Con := .look (Trie × Pf) (fun x => [.one (.p 0 0), .agg (pfV x.2)]) (fun x => trRo x.1) (fun x => x.1.ok ∧ wfP x.2) fun x => .tup [.i .i64 ((x.1.at' x.2).ent.getD 0), .b (x.1.at' x.2).ent.isSome]
def InsideT : Con := .look (Trie × Pf) (fun x => [.one (.p 0 0), .agg (pfV x.2)]) (fun x => trRo x.1) (fun x => x.1.ok ∧ wfP x.2) fun x => .b (kids (x.1.at' x.2))
def AboveT : Con := .row1 (Trie × Pf) (fun x => [.one (.p 0 0), .agg (pfV x.2)]) (fun x => trRo x.1) 3 (fun x => x.1.ok ∧ wfP x.2) rtK (fun x => x.1.above x.2) fun _ a => .a a
def UnderT : Con := .row1 (Trie × Pf) (fun x => [.one (.p 0 0), .agg (pfV x.2)]) (fun x => trRo x.1) 3 (fun x => x.1.ok ∧ wfP x.2) rtK (fun x => x.1.under x.2) fun _ a => .a a
def Trie.longest (t : Trie) (a : Ad) : List Rt := t.above (ofPf a (wd a.2.2))
def LongestT : Con := .look (Trie × Ad) (fun x => [.one (.p 0 0), .agg (adV x.2)]) (fun x => trRo x.1) (fun x => x.1.ok ∧ wfA x.2) fun x => .tup [.agg (rtV ((x.1.longest x.2).getLastD zR)), .b (!(x.1.longest x.2).isEmpty)]
def T0 : List (Nat × Con) := (222, RootZ) :: (182, MadeT) :: P1
def T1 : List (Nat × Con) := (173, FindT) :: (103, AboveT) :: T0
def T2 : List (Nat × Con) := (163, GetT) :: (213, InsideT) :: (96, UnderT) :: (177, LongestT) :: T1
def LqTf : FuncId → Nat → Lan
  | 183, _ => .inv { X := Int × Int × Int, slots := [6, 7], vals := fun x => [.i .i64 x.1, .i .i64 x.2.1], fix := [4], new := [], drop := [], obs := fun x => [.cells [.l (.i .i64 x.2.2)]] }
  | _, _ => .none
def LqTa : FuncId → Nat → Lan
  | 183, _ => .inv { X := Int × Int × List Rt, slots := [6, 7], vals := fun x => [.i .i64 x.1, .i .i64 x.2.1], fix := [7], new := [20], drop := [], obs := fun x => [.cells [.f 20 x.2.2.length], .row true rtK x.2.2] }
  | _, _ => .none
def LqTu : FuncId → Nat → Lan
  | 96, 0 => .inv { X := List Pl × List Rt, slots := [7, 6], vals := fun x => [.a (.f 20 x.1.length), .a (.f 21 x.2.length)], fix := [], new := [20, 21], drop := [5], obs := fun x => [.row true plK x.1, .row true rtK x.2] }
  | 96, _ => .unroll 3
  | _, _ => .none
end Sp
end
