/- Plain facts: rows in order of a key, and stably so. Nothing of the program stands here. -/
import Derived.Test.YtcilcmbailoeaaaSpWire
set_option linter.all false
set_option maxRecDepth 10000
namespace Sp
open Go
/-! ### parts of a list -/
def mids {α : Type} (l : List α) (a b : Nat) : List α := (l.take b).drop a
theorem mids_length {α : Type} (l : List α) {a b : Nat} (h : b ≤ l.length) : (mids l a b).length = b - a := by
  unfold mids
  rw [List.length_drop, List.length_take]
  omega
theorem mids_app {α : Type} (l : List α) {a b c : Nat} (h1 : a ≤ b) (h2 : b ≤ c) : mids l a c = mids l a b ++ mids l b c := by
  unfold mids
  have e1 : (l.take c).drop a = ((l.take c).drop a).take (b - a) ++ ((l.take c).drop a).drop (b - a) := (List.take_append_drop _ _).symm
  rw [e1, List.drop_drop, show a + (b - a) = b by omega, ← List.drop_take, List.take_take]
  congr 2
  congr 1
  omega
theorem split3 {α : Type} (l : List α) {a b : Nat} (h : a ≤ b) : l = l.take a ++ mids l a b ++ l.drop b := by
  have e : l.take b = l.take a ++ mids l a b := by
    unfold mids
    have := List.take_append_drop a (l.take b)
    rw [List.take_take, Nat.min_eq_left h] at this
    exact this.symm
  rw [← e, List.take_append_drop]
/-! ### keys -/
abbrev En := Int × Int
def key0 (_ : En) : Int := 0
def key1 (e : En) : Int := e.2
def cmpK (key : En → Int) (a b : En) : Int := if key a < key b then -1 else if key b < key a then 1 else 0
def SortedK (key : En → Int) (l : List En) : Prop := l.Pairwise fun a b => key a ≤ key b
/-- The same of each key, in the same order. -/
def EqF (key : En → Int) (l m : List En) : Prop := ∀ k, l.filter (fun x => decide (key x = k)) = m.filter (fun x => decide (key x = k))
theorem EqF.refl (key : En → Int) (l : List En) : EqF key l l := fun _ => rfl
theorem EqF.symm {key : En → Int} {l m : List En} (h : EqF key l m) : EqF key m l := fun k => (h k).symm
theorem EqF.trans {key : En → Int} {l m n : List En} (h : EqF key l m) (h2 : EqF key m n) : EqF key l n := fun k => (h k).trans (h2 k)
theorem EqF.app {key : En → Int} {l m l' m' : List En} (h : EqF key l m) (h2 : EqF key l' m') : EqF key (l ++ l') (m ++ m') := fun k => by rw [List.filter_append, List.filter_append, h k, h2 k]
theorem EqF.swap {key : En → Int} {l m : List En} (h : ∀ x ∈ l, ∀ y ∈ m, key x ≠ key y) : EqF key (l ++ m) (m ++ l) := fun k => by
  rw [List.filter_append, List.filter_append]
  by_cases hl : l.filter (fun x => decide (key x = k)) = []
  · rw [hl, List.nil_append, List.append_nil]
  · have hm : m.filter (fun x => decide (key x = k)) = [] := by
      rw [List.filter_eq_nil_iff]
      intro y hy hk
      obtain ⟨x, hx⟩ := List.exists_mem_of_ne_nil _ hl
      have hx := List.mem_filter.1 hx
      exact h x hx.1 y hy ((of_decide_eq_true hx.2).trans (of_decide_eq_true hk).symm)
    rw [hm, List.nil_append, List.append_nil]
theorem EqF.length {key : En → Int} : ∀ {l m : List En}, EqF key l m → ∀ x, x ∈ l ↔ x ∈ m := fun {l m} h x => by
  have := h (key x)
  constructor
  · intro hx
    have : x ∈ m.filter (fun y => decide (key y = key x)) := by rw [← this]; exact List.mem_filter.2 ⟨hx, by simp⟩
    exact (List.mem_filter.1 this).1
  · intro hx
    have : x ∈ l.filter (fun y => decide (key y = key x)) := by rw [this]; exact List.mem_filter.2 ⟨hx, by simp⟩
    exact (List.mem_filter.1 this).1
theorem EqF.tail {key : En → Int} {x : En} {l m : List En} (h : EqF key (x :: l) (x :: m)) : EqF key l m := fun k => by
  have := h k
  rw [List.filter_cons, List.filter_cons] at this
  split at this
  · exact (List.cons.inj this).2
  · exact this
theorem sorted_one {key : En → Int} : ∀ {l m : List En}, SortedK key l → SortedK key m → EqF key l m → l = m
  | [], [], _, _, _ => rfl
  | [], y :: m, _, _, h => absurd ((h.length y).2 (by simp)) (by simp)
  | x :: l, [], _, _, h => absurd ((h.length x).1 (by simp)) (by simp)
  | x :: l, y :: m, hl, hm, h => by
    have hx : key y ≤ key x := by
      rcases List.mem_cons.1 ((h.length x).1 (by simp)) with e | e
      · rw [e]; exact Int.le_refl _
      · exact (List.pairwise_cons.1 hm).1 x e
    have hy : key x ≤ key y := by
      rcases List.mem_cons.1 ((h.length y).2 (by simp)) with e | e
      · rw [e]; exact Int.le_refl _
      · exact (List.pairwise_cons.1 hl).1 y e
    have hk := h (key x)
    rw [List.filter_cons, List.filter_cons, if_pos (by simp), if_pos (by simp; omega)] at hk
    have e := (List.cons.inj hk).1
    subst e
    rw [sorted_one (List.pairwise_cons.1 hl).2 (List.pairwise_cons.1 hm).2 h.tail]
theorem eqF0 {l m : List En} (h : EqF key0 l m) : l = m := by
  have := h 0
  rwa [List.filter_eq_self.2 (fun _ _ => by simp [key0]), List.filter_eq_self.2 (fun _ _ => by simp [key0])] at this
theorem sorted_app {key : En → Int} {l m : List En} (hl : SortedK key l) (hm : SortedK key m) (h : ∀ x ∈ l, ∀ y ∈ m, key x ≤ key y) : SortedK key (l ++ m) := List.pairwise_append.2 ⟨hl, hm, h⟩
/-- A stretch of a row put in order, stably; all else as it was. -/
structure SSR (key : En → Int) (a b : Nat) (xs ys : List En) : Prop where
  len : ys.length = xs.length
  ahead : ys.take a = xs.take a
  behind : ys.drop b = xs.drop b
  sorted : SortedK key (mids ys a b)
  same : EqF key (mids ys a b) (mids xs a b)
/-- Two stretches that touch, exchanged. -/
def rotL (xs : List En) (a m b : Nat) : List En := xs.take a ++ mids xs m b ++ mids xs a m ++ xs.drop b
/-- Two stretches that are apart, exchanged. -/
def swapL (xs : List En) (a b n : Nat) : List En := xs.take a ++ mids xs b (b + n) ++ mids xs (a + n) b ++ mids xs a (a + n) ++ xs.drop (b + n)
end Sp
