/- Plain facts: rows whose stretches are exchanged, place by place. Nothing of the program stands here. -/
import Derived.Test.YtcilcmbailoeaaaSpVic
set_option linter.all false
set_option maxRecDepth 10000
namespace Sp
open Go
theorem mids_get {α : Type} (l : List α) (a b i : Nat) : (mids l a b)[i]? = if a + i < b then l[a + i]? else none := by
  unfold mids
  rw [List.getElem?_drop, List.getElem?_take]
theorem swapL_get (xs : List En) {a b n : Nat} (h1 : a + n ≤ b) (h2 : b + n ≤ xs.length) (j : Nat) :
    (swapL xs a b n)[j]? = if j < a then xs[j]? else if j < a + n then xs[b + (j - a)]? else if j < b then xs[j]? else if j < b + n then xs[a + (j - b)]? else xs[j]? := by
  have l1 : (xs.take a).length = a := by rw [List.length_take]; omega
  have l2 : (mids xs b (b + n)).length = n := by rw [mids_length _ (by omega)]; omega
  have l3 : (mids xs (a + n) b).length = b - (a + n) := mids_length _ (by omega)
  have l4 : (mids xs a (a + n)).length = n := by rw [mids_length _ (by omega)]; omega
  unfold swapL
  by_cases c1 : j < a
  · rw [if_pos c1, List.append_assoc, List.append_assoc, List.append_assoc, List.getElem?_append_left (by omega), List.getElem?_take, if_pos c1]
  rw [if_neg c1]
  by_cases c2 : j < a + n
  · rw [if_pos c2, List.append_assoc, List.append_assoc, List.append_assoc, List.getElem?_append_right (by omega), List.getElem?_append_left (by omega), mids_get, if_pos (by omega), l1]
  rw [if_neg c2]
  by_cases c3 : j < b
  · rw [if_pos c3, List.append_assoc, List.append_assoc, List.append_assoc, List.getElem?_append_right (by omega), List.getElem?_append_right (by omega), List.getElem?_append_left (by omega), mids_get, if_pos (by omega), l1, l2]
    congr 1
    omega
  rw [if_neg c3]
  by_cases c4 : j < b + n
  · rw [if_pos c4, List.append_assoc, List.append_assoc, List.append_assoc, List.getElem?_append_right (by omega), List.getElem?_append_right (by omega), List.getElem?_append_right (by omega), List.getElem?_append_left (by omega), mids_get, if_pos (by omega), l1, l2, l3]
    congr 1
    omega
  · rw [if_neg c4, List.append_assoc, List.append_assoc, List.append_assoc, List.getElem?_append_right (by omega), List.getElem?_append_right (by omega), List.getElem?_append_right (by omega), List.getElem?_append_right (by omega), List.getElem?_drop, l1, l2, l3, l4]
    congr 1
    omega
theorem rotL_get (xs : List En) {a m b : Nat} (h1 : a ≤ m) (h2 : m ≤ b) (h3 : b ≤ xs.length) (j : Nat) :
    (rotL xs a m b)[j]? = if j < a then xs[j]? else if j < a + (b - m) then xs[m + (j - a)]? else if j < b then xs[j - (b - m)]? else xs[j]? := by
  have l1 : (xs.take a).length = a := by rw [List.length_take]; omega
  have l2 : (mids xs m b).length = b - m := mids_length _ (by omega)
  have l3 : (mids xs a m).length = m - a := mids_length _ (by omega)
  unfold rotL
  by_cases c1 : j < a
  · rw [if_pos c1, List.append_assoc, List.append_assoc, List.getElem?_append_left (by omega), List.getElem?_take, if_pos c1]
  rw [if_neg c1]
  by_cases c2 : j < a + (b - m)
  · rw [if_pos c2, List.append_assoc, List.append_assoc, List.getElem?_append_right (by omega), List.getElem?_append_left (by omega), mids_get, if_pos (by omega), l1]
  rw [if_neg c2]
  by_cases c3 : j < b
  · rw [if_pos c3, List.append_assoc, List.append_assoc, List.getElem?_append_right (by omega), List.getElem?_append_right (by omega), List.getElem?_append_left (by omega), mids_get, if_pos (by omega), l1, l2]
    congr 1
    omega
  · rw [if_neg c3, List.append_assoc, List.append_assoc, List.getElem?_append_right (by omega), List.getElem?_append_right (by omega), List.getElem?_append_right (by omega), List.getElem?_drop, l1, l2, l3]
    congr 1
    omega
theorem swapL_length (xs : List En) {a b n : Nat} (h1 : a + n ≤ b) (h2 : b + n ≤ xs.length) : (swapL xs a b n).length = xs.length := by
  unfold swapL
  simp only [List.length_append, List.length_take, List.length_drop, mids_length xs h2, mids_length xs (show b ≤ xs.length by omega), mids_length xs (show a + n ≤ xs.length by omega)]
  omega
theorem rotL_length (xs : List En) {a m b : Nat} (h1 : a ≤ m) (h2 : m ≤ b) (h3 : b ≤ xs.length) : (rotL xs a m b).length = xs.length := by
  unfold rotL
  simp only [List.length_append, List.length_take, List.length_drop, mids_length xs h3, mids_length xs (show m ≤ xs.length by omega)]
  omega
theorem getD_some {α : Type} {l : List α} {i : Nat} (d : α) (h : i < l.length) : l[i]? = some (l.getD i d) := by
  rw [List.getD_eq_getElem?_getD, List.getElem?_eq_getElem h]
  rfl
/-- One place more. -/
theorem swapL_step (xs : List En) {a b n i : Nat} (h1 : a + n ≤ b) (h2 : b + n ≤ xs.length) (hi : i < n) :
    ((swapL xs a b i).set (a + i) ((swapL xs a b i).getD (b + i) (0, 0))).set (b + i) ((swapL xs a b i).getD (a + i) (0, 0)) = swapL xs a b (i + 1) := by
  have hl := swapL_length xs (a := a) (b := b) (n := i) (by omega) (by omega)
  have ga := swapL_get xs (a := a) (b := b) (n := i) (by omega) (by omega)
  have gb := swapL_get xs (a := a) (b := b) (n := i + 1) (by omega) (by omega)
  have e1 := getD_some (l := swapL xs a b i) (i := b + i) (0, 0) (by omega)
  have e2 := getD_some (l := swapL xs a b i) (i := a + i) (0, 0) (by omega)
  apply List.ext_getElem?
  intro j
  rw [List.getElem?_set, List.getElem?_set, gb j]
  by_cases c1 : b + i = j
  · subst c1
    rw [if_pos rfl, if_pos (by rw [List.length_set]; omega), ← e2, ga, if_neg (by omega), if_neg (by omega), if_pos (by omega), if_neg (by omega), if_neg (by omega), if_neg (by omega), if_pos (by omega)]
    congr 1
    omega
  rw [if_neg c1]
  by_cases c2 : a + i = j
  · subst c2
    rw [if_pos rfl, if_pos (by omega), ← e1, ga, if_neg (by omega), if_neg (by omega), if_neg (by omega), if_neg (by omega), if_neg (by omega), if_pos (by omega)]
    congr 1
    omega
  rw [if_neg c2, ga j]
  repeat' split
  all_goals first | rfl | omega
theorem rot_one (ys : List En) {m i : Nat} (hi : i ≤ m) (h : m + i ≤ ys.length) : swapL ys (m - i) m i = rotL ys (m - i) m (m + i) := by
  apply List.ext_getElem?
  intro t
  rw [swapL_get ys (by omega) (by omega), rotL_get ys (by omega) (by omega) (by omega)]
  repeat' split
  all_goals first | rfl | omega | (congr 1; omega)
theorem rot_left (ys : List En) {m i j : Nat} (hi : i ≤ m) (hj : j < i) (h : m + j ≤ ys.length) : rotL (swapL ys (m - i) m j) (m - i + j) m (m + j) = rotL ys (m - i) m (m + j) := by
  have hl := swapL_length ys (a := m - i) (b := m) (n := j) (by omega) (by omega)
  have hs := swapL_get ys (a := m - i) (b := m) (n := j) (by omega) (by omega)
  apply List.ext_getElem?
  intro t
  rw [rotL_get _ (by omega) (by omega) (by omega), rotL_get ys (by omega) (by omega) (by omega)]
  simp only [hs]
  repeat' split
  all_goals first | rfl | omega | (congr 1; omega)
theorem rot_right (ys : List En) {m i j : Nat} (hi : i ≤ m) (hj : i < j) (h : m + j ≤ ys.length) : rotL (swapL ys (m - i) (m + j - i) i) (m - i) m (m + (j - i)) = rotL ys (m - i) m (m + j) := by
  have hl := swapL_length ys (a := m - i) (b := m + j - i) (n := i) (by omega) (by omega)
  have hs := swapL_get ys (a := m - i) (b := m + j - i) (n := i) (by omega) (by omega)
  apply List.ext_getElem?
  intro t
  rw [rotL_get _ (by omega) (by omega) (by omega), rotL_get ys (by omega) (by omega) (by omega)]
  simp only [hs]
  repeat' split
  all_goals first | rfl | omega | (congr 1; omega)
end Sp
