/- Plain facts: a stretch put in order. Nothing of the program stands here. -/
import Derived.Test.YtcilcmbailoeaaaSpVic2
set_option linter.all false
set_option maxRecDepth 10000
namespace Sp
open Go
/-- A stretch in order, written out. -/
def SSL (key : En → Int) (a b : Nat) (xs ys : List En) : Prop := ∃ S, ys = xs.take a ++ S ++ xs.drop b ∧ S.length = b - a ∧ SortedK key S ∧ EqF key S (mids xs a b)
theorem app_mid {α : Type} {H S T : List α} {a b : Nat} (h : H.length = a) (hs : S.length = b - a) (hab : a ≤ b) : mids (H ++ S ++ T) a b = S := by
  unfold mids
  rw [List.take_left' (by rw [List.length_append]; omega), List.drop_left' h]
theorem SSL.rel {key : En → Int} {a b : Nat} {xs ys : List En} (hab : a ≤ b) (hb : b ≤ xs.length) (h : SSL key a b xs ys) : SSR key a b xs ys := by
  obtain ⟨S, rfl, h1, h2, h3⟩ := h
  have ha : (xs.take a).length = a := by rw [List.length_take]; omega
  have hm := app_mid (T := xs.drop b) ha h1 hab
  refine ⟨?_, ?_, ?_, by rw [hm]; exact h2, by rw [hm]; exact h3⟩
  · simp only [List.length_append, List.length_take, List.length_drop]
    omega
  · rw [List.append_assoc, List.take_left' ha]
  · rw [List.drop_left' (by rw [List.length_append]; omega)]
theorem SSR.list {key : En → Int} {a b : Nat} {xs ys : List En} (hab : a ≤ b) (hb : b ≤ xs.length) (h : SSR key a b xs ys) : SSL key a b xs ys := by
  refine ⟨mids ys a b, ?_, mids_length _ (by rw [h.len]; exact hb), h.sorted, h.same⟩
  rw [← h.ahead, ← h.behind]
  exact split3 ys hab
theorem pair_get {α : Type} (L : List α) (p e : α) (R : List α) (d : α) : (L ++ p :: e :: R).getD L.length d = p ∧ (L ++ p :: e :: R).getD (L.length + 1) d = e := by
  constructor
  · rw [List.getD_eq_getElem?_getD, List.getElem?_append_right (Nat.le_refl _), Nat.sub_self]; rfl
  · rw [List.getD_eq_getElem?_getD, List.getElem?_append_right (by omega), show L.length + 1 - L.length = 1 by omega]; rfl
theorem pair_swap {α : Type} (L : List α) (p e : α) (R : List α) : ((L ++ p :: e :: R).set (L.length + 1) p).set L.length e = L ++ e :: p :: R := by
  rw [List.set_append_right _ _ (by omega), show L.length + 1 - L.length = 1 by omega, List.set_append_right _ _ (Nat.le_refl _), Nat.sub_self]
  rfl
theorem mids_snoc (l : List En) {a i : Nat} (h : a ≤ i) (hi : i < l.length) : mids l a (i + 1) = mids l a i ++ [l.getD i (0, 0)] := by
  rw [mids_app l h (Nat.le_succ i)]
  congr 1
  apply List.ext_getElem?
  intro j
  rw [mids_get]
  cases j with
  | zero => rw [if_pos (by omega), Nat.add_zero, getD_some (0, 0) hi]; rfl
  | succ j => rw [if_neg (by omega)]; rfl
end Sp
