/- The laws of layer 12, kept. -/
import Derived.Test.YtcilcmbailoeaaaSpL12t
set_option linter.all false
set_option maxRecDepth 10000
namespace Sp
open Go Go.Proofs Sx Go.Proofs.Ytcilcmbailoeaaa.Ma
/-! ### plain facts -/
theorem rank_split (pol : Int) (A : List En) (x : En) (B : List En) (h1 : ∀ y ∈ A ++ B, keyOf pol x ≤ keyOf pol y) (h2 : ∀ y ∈ B, keyOf pol x < keyOf pol y) : rankK pol (A ++ x :: B) = x :: rankK pol (A ++ B) := by
  refine sorted_one (key := keyOf pol) (isK_sorted _ _) (List.pairwise_cons.2 ⟨fun y hy => ?_, isK_sorted _ _⟩) ?_
  · have := ((isK_eqf (keyOf pol) (A ++ B).reverse).length y).1 hy
    exact h1 y (List.mem_reverse.1 this)
  · refine (isK_eqf _ _).trans ?_
    have h3 : EqF (keyOf pol) ([x] ++ rankK pol (A ++ B)) ([x] ++ (A ++ B).reverse) := (EqF.refl _ _).app (isK_eqf _ _)
    refine EqF.trans ?_ h3.symm
    have h4 : EqF (keyOf pol) ((B.reverse ++ [x]) ++ A.reverse) (([x] ++ B.reverse) ++ A.reverse) := (EqF.swap (by
      intro a ha b hb
      have := h2 a (List.mem_reverse.1 ha)
      simp at hb
      rw [hb]
      omega)).app (EqF.refl _ _)
    simpa using h4
theorem split_at (l : List En) {i : Nat} (h : i < l.length) : l = l.take i ++ l.getD i (0, 0) :: l.drop (i + 1) := by
  have e : l.drop i = l.getD i (0, 0) :: l.drop (i + 1) := by
    rw [List.drop_eq_getElem_cons h, List.getD_eq_getElem?_getD, List.getElem?_eq_getElem h]
    rfl
  rw [← e, List.take_append_drop]
theorem mem_at {l : List En} {y : En} (h : y ∈ l) : ∃ i, i < l.length ∧ y = l.getD i (0, 0) := by
  obtain ⟨i, hi, rfl⟩ := List.mem_iff_getElem.1 h
  exact ⟨i, hi, by rw [List.getD_eq_getElem?_getD, List.getElem?_eq_getElem hi]; rfl⟩
theorem where_rank {pol : Int} {l : List En} {a : Int} (h : WhereR pol l a) (hl : l ≠ []) : (0 ≤ a ∧ a < l.length) ∧ rankK pol l = l.getD a.toNat (0, 0) :: rankK pol (l.take a.toNat ++ l.drop (a.toNat + 1)) := by
  rcases h with ⟨h, _⟩ | ⟨h0, h1, h2, h3⟩
  · exact absurd h hl
  refine ⟨⟨h0, h1⟩, ?_⟩
  have := rank_split pol (l.take a.toNat) (l.getD a.toNat (0, 0)) (l.drop (a.toNat + 1)) (fun y hy => ?_) fun y hy => ?_
  · rw [← split_at l (by omega)] at this
    exact this
  · rcases List.mem_append.1 hy with hy | hy
    · obtain ⟨i, hi, rfl⟩ := mem_at (List.mem_of_mem_take hy)
      exact h2 i hi
    · obtain ⟨i, hi, rfl⟩ := mem_at (List.mem_of_mem_drop hy)
      exact h2 i hi
  · obtain ⟨i, hi, rfl⟩ := mem_at hy
    rw [List.length_drop] at hi
    have := h3 (a.toNat + 1 + i) (by omega) (by omega)
    rw [List.getD_eq_getElem?_getD (l := l.drop _), List.getElem?_drop, ← List.getD_eq_getElem?_getD]
    exact this
theorem where_is (pol : Int) : ∀ (l : List En), l ≠ [] → ∃ a, WhereR pol l a := by
  intro l hl
  have hr := rankK_length pol l
  have hp : 0 < l.length := List.length_pos_iff.2 hl
  -- the last place with the least key
  have least : ∀ n, n ≤ l.length → 0 < n → ∃ a : Nat, a < n ∧ (∀ i, i < n → keyOf pol (l.getD a (0, 0)) ≤ keyOf pol (l.getD i (0, 0))) ∧ ∀ i, a < i → i < n → keyOf pol (l.getD a (0, 0)) < keyOf pol (l.getD i (0, 0)) := by
    intro n
    induction n with
    | zero => intro _ h; omega
    | succ n ih =>
      intro hn _
      by_cases h0 : n = 0
      · subst h0
        exact ⟨0, by omega, fun i hi => by obtain rfl : i = 0 := by omega
                                           exact Int.le_refl _, fun i hi hi2 => by omega⟩
      obtain ⟨a, ha, h1, h2⟩ := ih (by omega) (by omega)
      by_cases hc : keyOf pol (l.getD n (0, 0)) ≤ keyOf pol (l.getD a (0, 0))
      · refine ⟨n, by omega, fun i hi => ?_, fun i hi hi2 => by omega⟩
        by_cases he : i = n
        · rw [he]
          exact Int.le_refl _
        · have := h1 i (by omega)
          omega
      · refine ⟨a, by omega, fun i hi => ?_, fun i hi hi2 => ?_⟩
        · by_cases he : i = n
          · rw [he]
            omega
          · exact h1 i (by omega)
        · by_cases he : i = n
          · rw [he]
            omega
          · exact h2 i hi (by omega)
  obtain ⟨a, ha, h1, h2⟩ := least l.length (Nat.le_refl _) hp
  exact ⟨a, .inr ⟨by omega, by omega, by simpa using h1, fun i hi hi2 => by
    have := h2 i (by omega) hi2
    simpa using this⟩⟩
theorem choose_where {pol : Int} {l : List En} {a : Int} (h : WhereR pol l a) (hl : l ≠ []) : chooseK pol l = ((l.getD a.toNat (0, 0)).1, true) := by
  unfold chooseK
  rw [(where_rank h hl).2]
theorem and_low (x : Int) : 0 ≤ bits .and .i64 x 65535 ∧ bits .and .i64 x 65535 ≤ 65535 := by
  have e : bits .and .i64 x 65535 = IntKind.i64.wrap ((BitVec.ofInt 64 x &&& BitVec.ofInt 64 65535).toNat : Int) := rfl
  have h2 : (BitVec.ofInt 64 x).toNat &&& (BitVec.ofInt 64 65535).toNat ≤ (BitVec.ofInt 64 65535).toNat := Nat.and_le_right
  rw [show (BitVec.ofInt 64 65535).toNat = 65535 by decide] at h2
  rw [e, BitVec.toNat_and, IntKind.wrap_i64, show (BitVec.ofInt 64 65535).toNat = 65535 by decide]
  omega
/-! ### the document's answers -/
theorem p_where12 : T_where12 := by
  rintro ⟨pol, l⟩ hl
  dsimp only at hl ⊢
  have hl' : l.length ≤ 1000000 := hl
  by_cases hn : l = []
  · subst hn
    refine ⟨by decide, by decide, fun x => x.1 = -1 ∧ x.2 = -1, fun _ => 0, ⟨(-1, -1), ⟨rfl, rfl⟩, rfl, rfl, trivial⟩, ?_⟩
    rintro ⟨a, i⟩ ⟨rfl, rfl⟩
    exact ifB_d (fun h => by simp at h) fun _ => ⟨-1, .inl ⟨rfl, rfl⟩, rfl, trivial⟩
  have hp : 0 < l.length := List.length_pos_iff.2 hn
  by_cases h1 : pol = 1
  · subst h1
    have hk : keyOf 1 = key1 := rfl
    refine ⟨by omega, by omega, fun x => -1 ≤ x.2 ∧ x.2 < l.length ∧ x.2 ≤ x.1 ∧ x.1 < l.length ∧ 0 ≤ x.1 ∧ (∀ i : Nat, x.2 < i → i < l.length → key1 (l.getD x.1.toNat (0, 0)) ≤ key1 (l.getD i (0, 0))) ∧ ∀ i : Nat, x.1 < i → i < l.length → key1 (l.getD x.1.toNat (0, 0)) < key1 (l.getD i (0, 0)),
      fun x => (x.2 + 1).toNat, ⟨((l.length : Int) - 1, (l.length : Int) - 1), ⟨by dsimp only; omega, by dsimp only; omega, by dsimp only; omega, by dsimp only; omega, by dsimp only; omega, fun i hi hi2 => by dsimp only at hi; omega, fun i hi hi2 => by dsimp only at hi; omega⟩, rfl, rfl, trivial⟩, ?_⟩
    rintro ⟨a, i⟩ ⟨i0, i1, i2, i3, i4, i5, i6⟩
    dsimp only at i0 i1 i2 i3 i4 i5 i6 ⊢
    refine ifB_d (fun hi => ifB_eq rfl ⟨by omega, by omega, ifB_d (fun hlt => ⟨by omega, (i, i - 1), ⟨by dsimp only; omega, by dsimp only; omega, by dsimp only; omega, by dsimp only; omega, by dsimp only; omega, fun j hj hj2 => ?_, fun j hj hj2 => ?_⟩, by dsimp only; omega, rfl, rfl, trivial⟩) fun hlt => ⟨by omega, (a, i - 1), ⟨by dsimp only; omega, by dsimp only; omega, by dsimp only; omega, by dsimp only; omega, by dsimp only; omega, fun j hj hj2 => ?_, i6⟩, by dsimp only; omega, rfl, rfl, trivial⟩⟩) fun hi => ⟨a, .inr ⟨i4, i3, fun j hj => i5 j (by omega) hj, i6⟩, rfl, trivial⟩
    · dsimp only at hj ⊢
      by_cases he : (j : Int) = i
      · rw [show j = i.toNat by omega]
        exact Int.le_refl _
      · have := i5 j (by omega) hj2
        have hlt : key1 (l.getD i.toNat (0, 0)) < key1 (l.getD a.toNat (0, 0)) := hlt
        omega
    · dsimp only at hj ⊢
      have := i5 j (by omega) hj2
      have hlt : key1 (l.getD i.toNat (0, 0)) < key1 (l.getD a.toNat (0, 0)) := hlt
      omega
    · dsimp only at hj ⊢
      by_cases he : (j : Int) = i
      · rw [show j = i.toNat by omega]
        exact Int.not_lt.1 hlt
      · exact i5 j (by omega) hj2
  · have hk : keyOf pol = key0 := if_neg h1
    refine ⟨by omega, by omega, fun x => x.1 = (l.length : Int) - 1 ∧ x.2 = (l.length : Int) - 1, fun x => 0, ⟨((l.length : Int) - 1, (l.length : Int) - 1), ⟨rfl, rfl⟩, rfl, rfl, trivial⟩, ?_⟩
    rintro ⟨a, i⟩ ⟨i1, i2⟩
    dsimp only at i1 i2 ⊢
    have fin : (l = [] ∧ a = -1 ∨ 0 ≤ a ∧ a < l.length ∧ (∀ i, i < l.length → keyOf pol (l.getD a.toNat (0, 0)) ≤ keyOf pol (l.getD i (0, 0))) ∧ ∀ i : Nat, a < i → i < l.length → keyOf pol (l.getD a.toNat (0, 0)) < keyOf pol (l.getD i (0, 0))) := .inr ⟨by omega, by omega, fun j hj => by rw [hk]; exact Int.le_refl _, fun j hj hj2 => by omega⟩
    exact ifB_d (fun _ => ifB_d (fun h => absurd h h1) fun _ => ⟨a, fin, rfl, trivial⟩) fun _ => ⟨a, fin, rfl, trivial⟩
theorem p_ints : T_ints := by
  rintro ⟨a, b⟩ hl
  dsimp only at hl ⊢
  have hl' : a.length ≤ 1000000 := hl
  refine ifB_nd (fun h => ⟨(), trivial, ?_, trivial⟩) fun h => ?_
  · rw [decide_eq_false]
    intro e
    rw [e] at h
    exact h rfl
  refine ⟨fun i => 0 ≤ i ∧ i ≤ a.length ∧ ∀ j : Nat, j < i → a.getD j 0 = b.getD j 0, fun i => (a.length - i).toNat, ⟨0, ⟨by omega, by omega, fun j hj => by omega⟩, rfl, trivial⟩, ?_⟩
  rintro i ⟨i0, i1, i2⟩
  refine ifB_d (fun hi => ⟨by omega, by omega, ifB_nd (fun hne => ⟨(), trivial, ?_, trivial⟩) fun he => ⟨by omega, i + 1, ⟨by omega, by omega, fun j hj => ?_⟩, by dsimp only; omega, rfl, trivial⟩⟩) fun hi => ⟨(), trivial, ?_, trivial⟩
  · rw [decide_eq_false]
    intro e
    rw [e] at hne
    exact hne rfl
  · by_cases e : (j : Int) = i
    · rw [show j = i.toNat by omega]
      exact he
    · exact i2 j (by omega)
  · rw [decide_eq_true]
    apply List.ext_getElem (by omega)
    intro j h1 h2
    have := i2 j (by omega)
    rwa [List.getD_eq_getElem?_getD, List.getElem?_eq_getElem h1, List.getD_eq_getElem?_getD, List.getElem?_eq_getElem h2] at this
theorem take_step {α : Type} (l : List α) (d : α) {i : Nat} (h : i < l.length) : l.take (i + 1) = l.take i ++ [l.getD i d] := by
  rw [List.take_succ, getD_some d h]
  rfl
theorem p_ours12 : T_ours12 := by
  intro l hl
  have hl' : l.length ≤ 1000000 := hl
  refine ⟨fun x => 0 ≤ x.1 ∧ x.1 ≤ l.length ∧ x.2 = l.take x.1.toNat, fun x => (l.length - x.1).toNat, ⟨(0, []), ⟨by simp, by simp, by simp⟩, rfl, rfl, rfl, trivial⟩, ?_⟩
  rintro ⟨i, q⟩ ⟨i0, i1, i2⟩
  dsimp only at i0 i1 i2 ⊢
  subst i2
  have hq : (l.take i.toNat).length ≤ 1000000 := by rw [List.length_take]; omega
  refine ifB_d (fun h => ⟨by omega, by omega, ⟨by rw [List.length_singleton]; omega, by rw [List.length_singleton]; omega⟩, by omega, (i + 1, l.take (i + 1).toNat), ⟨by dsimp only; omega, by dsimp only; omega, rfl⟩, by dsimp only; omega, rfl, ?_, ?_, trivial⟩) fun h => ?_
  · dsimp only
    rw [show (i + 1).toNat = i.toNat + 1 by omega, take_step l (0, 0) (by omega), List.length_append]
  · dsimp only
    rw [show (i + 1).toNat = i.toNat + 1 by omega, take_step l (0, 0) (by omega)]
  · rw [List.take_of_length_le (by omega)]
    exact ⟨(), trivial, rfl, rfl, trivial⟩
theorem p_awake12 : T_awake12 := by
  intro _ _
  refine ⟨(1, [(10, 3), (11, 1), (12, 1), (13, 2)]), rfl, rfl, rfl, ⟨trivial, by decide⟩, fun _ _ => ⟨(0, [(10, 3), (11, 5)]), rfl, rfl, rfl, ⟨trivial, by decide⟩, fun _ _ => ?_⟩⟩
  have e1 : chooseK 1 [(10, 3), (11, 1), (12, 1), (13, 2)] = (12, true) := by decide
  have e2 : chooseK 0 [(10, 3), (11, 5)] = (11, true) := by decide
  dsimp only
  rw [e1, e2]
  exact ifB_tb rfl (ifB_tb rfl (ifB_eq rfl ⟨(), trivial, rfl, trivial⟩))
theorem GVT0 : Goods Try.prog VT0 := goods_cons g_choose (goods_cons g_rank (goods_nil _))
theorem GVT1 : Goods Try.prog VT1 := goods_cons (good_of_owes hM hP GVT0 Try.func131 rfl (o_where12 ▸ p_where12)) (goods_cons (good_of_owes hM hP GVT0 Try.func93 rfl (o_ints ▸ p_ints)) (goods_cons (good_of_owes hM hP GVT0 Try.func90 rfl (o_ours12 ▸ p_ours12)) (goods_cons (good_of_owes hM hP GVT0 Try.func89 rfl (o_awake12 ▸ p_awake12)) GVT0)))
theorem p_choose12 : T_choose12 := by
  rintro ⟨pol, l⟩ ⟨_, hl⟩
  dsimp only at hl ⊢
  refine ⟨(pol, l), rfl, rfl, rfl, hl, fun a ha => ?_⟩
  dsimp only at ha
  by_cases hn : l = []
  · subst hn
    rcases ha with ⟨_, rfl⟩ | ⟨h0, h1, _⟩
    · exact ifB_eq (by decide) ⟨(), trivial, rfl, rfl, trivial⟩
    · simp at h1
      omega
  · have hw := where_rank ha hn
    refine ifB_d (fun h => by omega) fun _ => ⟨hw.1, (), trivial, ?_, ?_, trivial⟩
    · rw [choose_where ha hn]
    · rw [choose_where ha hn]
theorem p_rank12 : T_rank12 := by
  rintro ⟨pol, l⟩ ⟨_, hl⟩
  dsimp only at hl ⊢
  have hl' : l.length ≤ 1000000 := hl
  refine ⟨⟨by omega, by omega⟩, fun x => x.1.length + x.2.length = l.length ∧ x.2 ++ (rankK pol x.1).map (·.1) = (rankK pol l).map (·.1), fun x => x.1.length, ⟨(l, []), ⟨by simp, by simp⟩, by simp, rfl, by simp, rfl, trivial⟩, ?_⟩
  rintro ⟨w, out⟩ ⟨i0, i1⟩
  dsimp only at i0 i1 ⊢
  refine ifB_d (fun h => ⟨(pol, w), rfl, rfl, rfl, by show w.length ≤ 1000000; omega, fun a ha => ?_⟩) fun h => ?_
  · have hn : w ≠ [] := by rintro rfl; simp at h
    obtain ⟨⟨a0, a1⟩, hw⟩ := where_rank ha hn
    dsimp only at a1
    have e1 : List.drop 0 (List.take a.toNat w) = w.take a.toNat := rfl
    have e2 : List.drop (a + 1).toNat (List.take w.length w) = w.drop (a.toNat + 1) := by rw [List.take_length, show (a + 1).toNat = a.toNat + 1 by omega]
    rw [e1, e2, List.length_take, List.length_drop, List.length_singleton]
    refine ⟨by omega, by omega, by omega, by omega, by omega, by omega, by omega, (w.take a.toNat ++ w.drop (a.toNat + 1), out ++ [(w.getD a.toNat (0, 0)).1]), ⟨?_, ?_⟩, ?_, ?_, ?_, rfl, rfl, trivial⟩
    · simp only [List.length_append, List.length_take, List.length_drop, List.length_singleton]
      omega
    · dsimp only at hw ⊢
      rw [← i1, hw]
      simp
    · simp only [List.length_append, List.length_take, List.length_drop]
      omega
    · simp only [List.length_append, List.length_take, List.length_drop]
      omega
    · rw [List.length_append, List.length_singleton]
  · obtain rfl : w = [] := List.eq_nil_of_length_eq_zero (by omega)
    have e : rankK pol [] = [] := rfl
    rw [e, List.map_nil, List.append_nil] at i1
    rw [i1]
    exact ⟨(), trivial, rfl, rfl, trivial⟩
theorem GVT2 : Goods Try.prog VT2 := goods_cons (good_of_owes hM hP GVT1 Try.func92 rfl (o_choose12 ▸ p_choose12)) (goods_cons (good_of_owes hM hP GVT1 Try.func95 rfl (o_rank12 ▸ p_rank12)) GVT1)
/-! ### laws -/
theorem p_vicis : T_vicis := by
  rintro ⟨pol, l⟩ _
  refine ⟨(), trivial, fun _ _ => ifB_d (fun _ => ⟨(), trivial, rfl, trivial⟩) fun hl => ?_⟩
  dsimp only at hl ⊢
  have hm : l.length ≤ most := by show l.length ≤ 1000000; omega
  refine ⟨l, rfl, rfl, hm, fun _ _ => ⟨(pol, l), rfl, rfl, rfl, ⟨trivial, hm⟩, fun _ _ => ⟨(pol, l), rfl, rfl, rfl, ⟨trivial, hm⟩, fun _ _ => ifB_eq rfl (ifB_eq rfl ⟨l, rfl, rfl, hm, fun _ _ => ⟨(pol, l), rfl, rfl, rfl, ⟨trivial, hm⟩, fun _ _ => ⟨(pol, l), rfl, rfl, rfl, ⟨trivial, hm⟩, fun _ _ => ⟨(_, _), rfl, rfl, rfl, rfl, ?_, fun _ _ => ⟨(), trivial, ?_, trivial⟩⟩⟩⟩⟩)⟩⟩⟩
  · dsimp only
    rw [List.length_map, rankK_length]
    exact hm
  · simp
/-- Entries, their numbers their places. -/
def numL (l : List En) : List En := l.mapIdx fun i e => ((i : Int), e.2)
theorem numL_length (l : List En) : (numL l).length = l.length := List.length_mapIdx
theorem numL_get (l : List En) {i : Nat} (h : i < l.length) : (numL l).getD i (0, 0) = ((i : Int), (l.getD i (0, 0)).2) := by
  unfold numL
  rw [List.getD_eq_getElem?_getD, List.getElem?_mapIdx, getD_some (0, 0) h]
  rfl
/-- So far. -/
def numTo (l : List En) (n : Nat) (m : List En) : Prop := m.length = l.length ∧ ∀ i, i < l.length → m.getD i (0, 0) = if i < n then ((i : Int), (l.getD i (0, 0)).2) else l.getD i (0, 0)
theorem numTo_all {l m : List En} {n : Nat} (h : numTo l n m) (hn : l.length ≤ n) : m = numL l := by
  apply List.ext_getElem (by rw [h.1, numL_length])
  intro i h1 h2
  have h3 : i < l.length := by rw [← h.1]; exact h1
  have := h.2 i h3
  rw [if_pos (by omega), ← numL_get l h3, List.getD_eq_getElem?_getD, List.getElem?_eq_getElem h1, List.getD_eq_getElem?_getD, List.getElem?_eq_getElem h2] at this
  exact this
theorem numTo_step {l m : List En} {n : Nat} (h : numTo l n m) (hn : n < l.length) : numTo l (n + 1) (m.set n ((n : Int), (m.getD n (0, 0)).2)) := by
  refine ⟨by rw [List.length_set]; exact h.1, fun i hi => ?_⟩
  rw [List.getD_eq_getElem?_getD, List.getElem?_set]
  by_cases e : n = i
  · subst e
    rw [if_pos rfl, if_pos (by rw [h.1]; exact hn), if_pos (by omega), h.2 n hn, if_neg (by omega)]
    rfl
  · rw [if_neg e, ← List.getD_eq_getElem?_getD, h.2 i hi]
    by_cases c : i < n
    · rw [if_pos c, if_pos (by omega)]
    · rw [if_neg c, if_neg (by omega)]
theorem p_viclight : T_viclight := by
  intro l _
  refine ⟨(), trivial, fun _ _ => ifB_d (fun _ => ⟨(), trivial, rfl, trivial⟩) fun hl => ?_⟩
  have hm : l.length ≤ most := by show l.length ≤ 1000000; omega
  refine ⟨l, rfl, rfl, hm, fun _ _ => ⟨fun x => 0 ≤ x.1 ∧ x.1 ≤ l.length ∧ numTo l x.1.toNat x.2, fun x => (l.length - x.1).toNat, ⟨(0, l), ⟨by simp, by simp, rfl, fun i hi => by rw [if_neg (by simp)]⟩, rfl, rfl, trivial⟩, ?_⟩⟩
  rintro ⟨i, m⟩ ⟨i0, i1, i2⟩
  dsimp only at i0 i1 i2 ⊢
  refine ifB_d (fun h => ⟨by omega, by omega, (i + 1, _), ⟨by dsimp only; omega, by dsimp only; omega, ?_⟩, by dsimp only; omega, rfl, rfl, trivial⟩) fun h => ?_
  · dsimp only
    have := numTo_step i2 (by omega)
    rwa [show ((i.toNat : Nat) : Int) = i by omega, show i.toNat + 1 = (i + 1).toNat by omega] at this
  obtain rfl := numTo_all i2 (by omega)
  have hml := numL_length l
  refine ⟨(1, numL l), rfl, hml.symm, rfl, ⟨trivial, by dsimp only; rw [hml]; exact hm⟩, fun _ _ => ?_⟩
  dsimp only
  by_cases hn : l = []
  · subst hn
    exact ifB_tb rfl ⟨(), trivial, rfl, trivial⟩
  have hnl : numL l ≠ [] := by
    intro e
    rw [e] at hml
    exact hn (List.eq_nil_of_length_eq_zero hml.symm)
  obtain ⟨a, ha⟩ := where_is 1 (numL l) hnl
  obtain ⟨⟨a0, a1⟩, _⟩ := where_rank ha hnl
  have hc := choose_where ha hnl
  rw [numL_get l (by omega), show ((a.toNat : Nat) : Int) = a by omega] at hc
  rw [hc]
  rcases ha with ⟨h, _⟩ | ⟨_, _, h2, h3⟩
  · exact absurd h hnl
  refine ifB_nb rfl (ifB_d (fun h => by dsimp only at h; omega) fun _ => ifB_d (fun h => by dsimp only at h; omega) fun _ => ⟨fun k => 0 ≤ k ∧ k ≤ l.length, fun k => (l.length - k).toNat, ⟨0, ⟨by omega, by omega⟩, rfl, trivial⟩, ?_⟩)
  rintro k ⟨k0, k1⟩
  refine ifB_d (fun hk => ⟨by omega, by dsimp only; omega, ifB_d (fun hlt => ?_) fun hlt => ⟨by omega, by dsimp only; omega, ifB_d (fun heq => ifB_d (fun hgt => ?_) fun _ => ⟨by omega, k + 1, ⟨by omega, by omega⟩, by dsimp only; omega, rfl, trivial⟩) fun _ => ⟨by omega, k + 1, ⟨by omega, by omega⟩, by dsimp only; omega, rfl, trivial⟩⟩⟩) fun hk => ⟨(), trivial, rfl, trivial⟩
  · have : key1 ((numL l).getD a.toNat (0, 0)) ≤ key1 ((numL l).getD k.toNat (0, 0)) := h2 k.toNat (by omega)
    exact absurd hlt (Int.not_lt.2 this)
  · dsimp only at hgt heq
    have : key1 ((numL l).getD a.toNat (0, 0)) < key1 ((numL l).getD k.toNat (0, 0)) := h3 k.toNat (by omega) (by omega)
    have heq : key1 ((numL l).getD k.toNat (0, 0)) = key1 ((numL l).getD a.toNat (0, 0)) := heq
    omega
/-- What is put in order are the same. -/
theorem insK_perm (key : En → Int) (x : En) : ∀ l, (insK key x l).Perm (x :: l)
  | [] => List.Perm.refl _
  | y :: l => by
    unfold insK
    split
    · exact List.Perm.refl _
    · exact ((insK_perm key x l).cons y).trans (List.Perm.swap x y l)
theorem isK_perm (key : En → Int) : ∀ l, (isK key l).Perm l
  | [] => List.Perm.refl _
  | x :: l => (insK_perm key x (isK key l)).trans ((isK_perm key l).cons x)
theorem rank_perm (pol : Int) (l : List En) : (rankK pol l).Perm l := (isK_perm _ _).trans (List.reverse_perm l)
theorem isK0 (l : List En) : isK key0 l = l := eqF0 (isK_eqf key0 l)
theorem rank0 {pol : Int} (h : pol ≠ 1) (l : List En) : rankK pol l = l.reverse := by
  unfold rankK
  rw [show keyOf pol = key0 from if_neg h, isK0]
theorem numL_mem {l : List En} {e : En} (h : e ∈ numL l) : ∃ i, i < l.length ∧ e = ((i : Int), (l.getD i (0, 0)).2) := by
  obtain ⟨i, hi, rfl⟩ := mem_at h
  rw [numL_length] at hi
  exact ⟨i, hi, numL_get l hi⟩
theorem map_getD (R : List En) {i : Nat} (h : i < R.length) : (R.map (·.1)).getD i 0 = (R.getD i (0, 0)).1 := by
  rw [List.getD_eq_getElem?_getD, List.getElem?_map, getD_some (0, 0) h]
  rfl
/-- The order of numbered entries. -/
theorem rank_num (pol : Int) (l : List En) {i : Nat} (h : i < l.length) : ∃ k : Nat, k < l.length ∧ ((rankK pol (numL l)).map (·.1)).getD i 0 = k ∧ (rankK pol (numL l)).getD i (0, 0) = (numL l).getD k (0, 0) := by
  have hl : i < (rankK pol (numL l)).length := by rw [rankK_length, numL_length]; exact h
  have hm : (rankK pol (numL l)).getD i (0, 0) ∈ rankK pol (numL l) := by
    rw [List.getD_eq_getElem?_getD, List.getElem?_eq_getElem hl]
    exact List.getElem_mem hl
  obtain ⟨k, hk, he⟩ := numL_mem ((rank_perm pol (numL l)).mem_iff.1 hm)
  refine ⟨k, hk, ?_, ?_⟩
  · rw [map_getD _ hl, he]
  · rw [he, numL_get l hk]
theorem numL_nodup (l : List En) : ((numL l).map (·.1)).Nodup := by
  rw [List.nodup_iff_pairwise_ne, List.pairwise_iff_getElem]
  intro i j hi hj hij
  rw [List.length_map, numL_length] at hi hj
  have e : ∀ k (hk : k < ((numL l).map (·.1)).length), ((numL l).map (·.1))[k] = (k : Int) := by
    intro k hk
    rw [List.length_map, numL_length] at hk
    have := map_getD (numL l) (i := k) (by rw [numL_length]; exact hk)
    rw [numL_get l hk, List.getD_eq_getElem?_getD, List.getElem?_eq_getElem (by rw [List.length_map, numL_length]; exact hk)] at this
    exact this
  rw [e, e]
  omega
theorem rank_once (pol : Int) (l : List En) {i j : Nat} (hi : i < l.length) (hj : j < i) : ((rankK pol (numL l)).map (·.1)).getD i 0 ≠ ((rankK pol (numL l)).map (·.1)).getD j 0 := by
  have hn : ((rankK pol (numL l)).map (·.1)).Nodup := (((rank_perm pol (numL l)).map (·.1)).nodup_iff).2 (numL_nodup l)
  have hl : ((rankK pol (numL l)).map (·.1)).length = l.length := by rw [List.length_map, rankK_length, numL_length]
  rw [List.nodup_iff_pairwise_ne, List.pairwise_iff_getElem] at hn
  have := hn j i (by omega) (by omega) hj
  rw [List.getD_eq_getElem?_getD, List.getElem?_eq_getElem (by omega), List.getD_eq_getElem?_getD, List.getElem?_eq_getElem (by omega)]
  exact fun e => this e.symm
theorem rank_rise (l : List En) {i : Nat} (hi : i + 1 < l.length) : key1 ((rankK 1 (numL l)).getD i (0, 0)) ≤ key1 ((rankK 1 (numL l)).getD (i + 1) (0, 0)) := by
  have hl : (rankK 1 (numL l)).length = l.length := by rw [rankK_length, numL_length]
  have := List.pairwise_iff_getElem.1 (isK_sorted (keyOf 1) (numL l).reverse) i (i + 1) (by show i < (rankK 1 (numL l)).length; omega) (by show i + 1 < (rankK 1 (numL l)).length; omega) (by omega)
  rw [List.getD_eq_getElem?_getD, List.getElem?_eq_getElem (by omega), List.getD_eq_getElem?_getD, List.getElem?_eq_getElem (by omega)]
  exact this
theorem p_vicrank : T_vicrank := by
  rintro ⟨pol, l⟩ _
  refine ⟨(), trivial, fun _ _ => ifB_d (fun _ => ⟨(), trivial, rfl, trivial⟩) fun hl => ?_⟩
  dsimp only at hl ⊢
  have hm : l.length ≤ most := by show l.length ≤ 1000000; omega
  refine ⟨l, rfl, rfl, hm, fun _ _ => ⟨fun x => 0 ≤ x.1 ∧ x.1 ≤ l.length ∧ numTo l x.1.toNat x.2, fun x => (l.length - x.1).toNat, ⟨(0, l), ⟨by simp, by simp, rfl, fun i hi => by rw [if_neg (by simp)]⟩, rfl, rfl, trivial⟩, ?_⟩⟩
  rintro ⟨i, m⟩ ⟨i0, i1, i2⟩
  dsimp only at i0 i1 i2 ⊢
  refine ifB_d (fun h => ⟨by omega, by omega, (i + 1, _), ⟨by dsimp only; omega, by dsimp only; omega, ?_⟩, by dsimp only; omega, rfl, rfl, trivial⟩) fun h => ?_
  · dsimp only
    have := numTo_step i2 (by omega)
    rwa [show ((i.toNat : Nat) : Int) = i by omega, show i.toNat + 1 = (i + 1).toNat by omega] at this
  obtain rfl := numTo_all i2 (by omega)
  have hml := numL_length l
  refine ⟨(pol, numL l), rfl, hml.symm, rfl, ⟨trivial, by dsimp only; rw [hml]; exact hm⟩, fun _ _ => ?_⟩
  dsimp only
  have num := fun i h => rank_num pol l (i := i) h
  have once := fun i j hi hj => rank_once pol l (i := i) (j := j) hi hj
  have hR : (rankK pol (numL l)).length = l.length := by rw [rankK_length, hml]
  have hch : l ≠ [] → chooseK pol (numL l) = (((rankK pol (numL l)).map (·.1)).getD 0 0, true) := by
    intro hn
    have hp : 0 < l.length := List.length_pos_iff.2 hn
    rw [chooseK_eq pol (by omega), map_getD _ (by omega)]
  have hrl : ((rankK pol (numL l)).map (·.1)).length = l.length := by rw [List.length_map, hR]
  have low : pol ≠ 1 → ∀ i, i < l.length → ((rankK pol (numL l)).map (·.1)).getD i 0 = (l.length : Int) - 1 - i := by
    intro hp i hi
    rw [map_getD _ (by omega), rank0 hp, List.getD_eq_getElem?_getD, List.getElem?_reverse (by omega), ← List.getD_eq_getElem?_getD, hml, numL_get l (by omega)]
    dsimp only
    omega
  have rise : pol = 1 → ∀ i, i + 1 < l.length → key1 ((rankK pol (numL l)).getD i (0, 0)) ≤ key1 ((rankK pol (numL l)).getD (i + 1) (0, 0)) := by
    rintro rfl i hi
    exact rank_rise l hi
  generalize hr : (rankK pol (numL l)).map (·.1) = r at *
  refine ifB_nd (fun h => by rw [hrl] at h; exact absurd rfl h) fun _ => ⟨by omega, ?_⟩
  refine ⟨fun x => 0 ≤ x.1 ∧ x.1 ≤ l.length ∧ x.2.length = l.length ∧ ∀ p, p < l.length → (x.2.getD p false = true → ∃ j : Nat, (j : Int) < x.1 ∧ r.getD j 0 = (p : Int)), fun x => (l.length - x.1).toNat, ⟨(0, List.replicate l.length false), ⟨by simp, by simp, by simp, fun p hp h => ?_⟩, rfl, by rw [Int.toNat_natCast], trivial⟩, ?_⟩
  · dsimp only at h
    rw [List.getD_eq_getElem?_getD, List.getElem?_replicate, if_pos hp] at h
    cases h
  rintro ⟨i, met⟩ ⟨i0, i1, i2, i3⟩
  dsimp only at i0 i1 i2 i3 ⊢
  refine ifB_d (fun h => ⟨by omega, ?_⟩) fun h => ?_
  · rw [hrl] at h
    obtain ⟨k, k0, k1, k2⟩ := num i.toNat (by omega)
    rw [k1]
    have fin : (0 ≤ (k : Int) ∧ (k : Int) < ((((l.length : Int).toNat : Nat)) : Int)) ∧ (-9223372036854775808 ≤ i + 1 ∧ i + 1 ≤ 9223372036854775807) ∧ ∃ y : Int × List Bool, (0 ≤ y.1 ∧ y.1 ≤ l.length ∧ y.2.length = l.length ∧ ∀ p, p < l.length → (y.2.getD p false = true → ∃ j : Nat, (j : Int) < y.1 ∧ r.getD j 0 = (p : Int))) ∧
        ((l.length : Int) - y.1).toNat < ((l.length : Int) - i).toNat ∧ i + 1 = y.1 ∧ met.set ((k : Int)).toNat true = y.2 ∧ True := by
      refine ⟨by omega, by omega, (i + 1, met.set k true), ⟨by dsimp only; omega, by dsimp only; omega, by dsimp only; rw [List.length_set]; exact i2, fun p hp hpm => ?_⟩, by dsimp only; omega, rfl, by rw [Int.toNat_natCast], trivial⟩
      dsimp only at hpm ⊢
      by_cases e : k = p
      · exact ⟨i.toNat, by omega, by rw [k1, e]⟩
      · rw [List.getD_eq_getElem?_getD, List.getElem?_set, if_neg e, ← List.getD_eq_getElem?_getD] at hpm
        obtain ⟨j, j1, j2⟩ := i3 p hp hpm
        exact ⟨j, by omega, j2⟩
    have lite : pol = 1 → (ifB (decide (0 < i))
        ((-9223372036854775808 ≤ i - 1 ∧ i - 1 ≤ 9223372036854775807) ∧ (0 ≤ i - 1 ∧ i - 1 < (r.length : Int)) ∧ (0 ≤ r.getD (i - 1).toNat 0 ∧ r.getD (i - 1).toNat 0 < (l.length : Int)) ∧ (0 ≤ (k : Int) ∧ (k : Int) < (l.length : Int)) ∧
          ifB (decide (((numL l).getD ((k : Int)).toNat (0, 0)).2 < ((numL l).getD (r.getD (i - 1).toNat 0).toNat (0, 0)).2)) (∃ y : Unit, True ∧ false = true ∧ True)
            ((0 ≤ (k : Int) ∧ (k : Int) < ((((l.length : Int).toNat : Nat)) : Int)) ∧ (-9223372036854775808 ≤ i + 1 ∧ i + 1 ≤ 9223372036854775807) ∧ ∃ y : Int × List Bool, (0 ≤ y.1 ∧ y.1 ≤ l.length ∧ y.2.length = l.length ∧ ∀ p, p < l.length → (y.2.getD p false = true → ∃ j : Nat, (j : Int) < y.1 ∧ r.getD j 0 = (p : Int))) ∧
        ((l.length : Int) - y.1).toNat < ((l.length : Int) - i).toNat ∧ i + 1 = y.1 ∧ met.set ((k : Int)).toNat true = y.2 ∧ True))
        ((0 ≤ (k : Int) ∧ (k : Int) < ((((l.length : Int).toNat : Nat)) : Int)) ∧ (-9223372036854775808 ≤ i + 1 ∧ i + 1 ≤ 9223372036854775807) ∧ ∃ y : Int × List Bool, (0 ≤ y.1 ∧ y.1 ≤ l.length ∧ y.2.length = l.length ∧ ∀ p, p < l.length → (y.2.getD p false = true → ∃ j : Nat, (j : Int) < y.1 ∧ r.getD j 0 = (p : Int))) ∧
        ((l.length : Int) - y.1).toNat < ((l.length : Int) - i).toNat ∧ i + 1 = y.1 ∧ met.set ((k : Int)).toNat true = y.2 ∧ True)) := by
      intro hp
      refine ifB_d (fun hi0 => ?_) fun _ => fin
      obtain ⟨q, q0, q1, q2⟩ := num (i - 1).toNat (by omega)
      rw [q1]
      refine ⟨by omega, by omega, by omega, by omega, ifB_d (fun hlt => ?_) fun _ => fin⟩
      have := rise hp (i - 1).toNat (by omega)
      rw [show (i - 1).toNat + 1 = i.toNat by omega, q2, k2] at this
      have hlt : key1 ((numL l).getD k (0, 0)) < key1 ((numL l).getD q (0, 0)) := hlt
      omega
    refine ifB_d (fun h0 => by omega) fun _ => ifB_d (fun h0 => by omega) fun _ => ⟨by omega, ifB_b (fun hmet => ?_) fun _ => ifB_nd (fun hp => ⟨by omega, by omega, ifB_nd (fun hne => ?_) fun _ => ifB_d (fun h1 => absurd h1 hp) fun _ => fin⟩) fun hp => ifB_eq hp (lite hp)⟩
    · rw [Int.toNat_natCast] at hmet
      obtain ⟨j, j1, j2⟩ := i3 k k0 hmet
      exact absurd (k1.trans j2.symm) (once i.toNat j (by omega) (by omega))
    · have := low hp i.toNat (by omega)
      rw [k1] at this
      omega
  · refine ⟨(pol, numL l), rfl, hml.symm, rfl, ⟨trivial, by dsimp only; rw [hml]; exact hm⟩, fun _ _ => ?_⟩
    dsimp only
    by_cases hn : l = []
    · subst hn
      exact ifB_eq rfl (ifB_tb rfl ⟨(), trivial, rfl, trivial⟩)
    · have hp : 0 < l.length := List.length_pos_iff.2 hn
      rw [hch hn]
      exact ifB_eq (by rw [decide_eq_true (by omega)]) (ifB_nb rfl ⟨by omega, (), trivial, by simp, trivial⟩)
/-! ### other scores in the same order -/
theorem insK_map (f : En → En) (key : En → Int) (hf : ∀ a b, key (f a) ≤ key (f b) ↔ key a ≤ key b) (x : En) : ∀ l, insK key (f x) (l.map f) = (insK key x l).map f
  | [] => rfl
  | y :: l => by
    rw [List.map_cons]
    unfold insK
    by_cases h : key x ≤ key y
    · rw [if_pos h, if_pos ((hf x y).2 h)]
      rfl
    · rw [if_neg h, if_neg (fun k => h ((hf x y).1 k)), List.map_cons, insK_map f key hf x l]
theorem isK_map (f : En → En) (key : En → Int) (hf : ∀ a b, key (f a) ≤ key (f b) ↔ key a ≤ key b) : ∀ l, isK key (l.map f) = (isK key l).map f
  | [] => rfl
  | x :: l => by rw [List.map_cons, isK, isK_map f key hf l, insK_map f key hf, isK]
/-- Scores changed so far. -/
def scTo (g : Int → Int) (l : List En) (n : Nat) (m : List En) : Prop := m.length = l.length ∧ ∀ i, i < l.length → m.getD i (0, 0) = if i < n then ((l.getD i (0, 0)).1, g (l.getD i (0, 0)).2) else l.getD i (0, 0)
theorem scTo_all {g : Int → Int} {l m : List En} {n : Nat} (h : scTo g l n m) (hn : l.length ≤ n) : m = l.map fun e => (e.1, g e.2) := by
  apply List.ext_getElem (by rw [h.1, List.length_map])
  intro i h1 h2
  have h3 : i < l.length := by rw [← h.1]; exact h1
  have := h.2 i h3
  rw [if_pos (by omega), List.getD_eq_getElem?_getD, List.getElem?_eq_getElem h1, List.getD_eq_getElem?_getD, List.getElem?_eq_getElem h3] at this
  rw [List.getElem_map]
  exact this
theorem scTo_step {g : Int → Int} {l m : List En} {n : Nat} (h : scTo g l n m) (hn : n < l.length) : scTo g l (n + 1) (m.set n ((m.getD n (0, 0)).1, g (l.getD n (0, 0)).2)) := by
  refine ⟨by rw [List.length_set]; exact h.1, fun i hi => ?_⟩
  rw [List.getD_eq_getElem?_getD, List.getElem?_set]
  by_cases e : n = i
  · subst e
    rw [if_pos rfl, if_pos (by rw [h.1]; exact hn), if_pos (by omega), h.2 n hn, if_neg (by omega)]
    rfl
  · rw [if_neg e, ← List.getD_eq_getElem?_getD, h.2 i hi]
    by_cases c : i < n
    · rw [if_pos c, if_pos (by omega)]
    · rw [if_neg c, if_neg (by omega)]
theorem scTo_zero (g : Int → Int) (l : List En) : scTo g l 0 l := ⟨rfl, fun i hi => by rw [if_neg (by omega)]⟩
theorem p_vicscores : T_vicscores := by
  intro l _
  refine ⟨(), trivial, fun _ _ => ifB_d (fun _ => ⟨(), trivial, rfl, trivial⟩) fun hl => ?_⟩
  have hm : l.length ≤ most := by show l.length ≤ 1000000; omega
  let g1 : Int → Int := fun z => bits .and .i64 z 65535
  let g2 : Int → Int := fun z => 2 * bits .and .i64 z 65535 + 1
  refine ⟨l, rfl, rfl, hm, fun _ _ => ⟨l, rfl, rfl, hm, fun _ _ => ⟨fun x => 0 ≤ x.1 ∧ x.1 ≤ l.length ∧ scTo g1 l x.1.toNat x.2.1 ∧ scTo g2 l x.1.toNat x.2.2, fun x => (l.length - x.1).toNat, ⟨(0, l, l), ⟨by simp, by simp, scTo_zero _ _, scTo_zero _ _⟩, rfl, rfl, rfl, trivial⟩, ?_⟩⟩⟩
  rintro ⟨i, a, b⟩ ⟨i0, i1, i2, i3⟩
  dsimp only at i0 i1 i2 i3 ⊢
  have ab := and_low (l.getD i.toNat (0, 0)).2
  refine ifB_d (fun h => ⟨by omega, by omega, by omega, by omega, by omega, by omega, by omega, (i + 1, _, _), ⟨by dsimp only; omega, by dsimp only; omega, ?_, ?_⟩, by dsimp only; omega, rfl, rfl, rfl, trivial⟩) fun h => ?_
  · dsimp only
    have := scTo_step i2 (n := i.toNat) (by omega)
    rwa [show i.toNat + 1 = (i + 1).toNat by omega] at this
  · dsimp only
    have := scTo_step i3 (n := i.toNat) (by omega)
    rwa [show i.toNat + 1 = (i + 1).toNat by omega] at this
  have ha := scTo_all i2 (by omega)
  have hb := scTo_all i3 (by omega)
  have hal : a.length = l.length := i2.1
  have hbl : b.length = l.length := i3.1
  have e1 : (rankK 1 a).map (·.1) = (rankK 1 b).map (·.1) := by
    have hba : b = a.map fun e => (e.1, 2 * e.2 + 1) := by
      rw [ha, hb, List.map_map]
      rfl
    unfold rankK
    rw [hba, ← List.map_reverse, isK_map (fun e : En => (e.1, 2 * e.2 + 1)) (keyOf 1) (by intro x y; show 2 * x.2 + 1 ≤ 2 * y.2 + 1 ↔ x.2 ≤ y.2; omega), List.map_map]
    rfl
  have e2 : (rankK 0 a).map (·.1) = (rankK 0 l).map (·.1) := by
    rw [rank0 (by decide), rank0 (by decide), ha, ← List.map_reverse, List.map_map]
    rfl
  refine ⟨(1, a), rfl, hal.symm, rfl, ⟨trivial, by dsimp only; rw [hal]; exact hm⟩, fun _ _ => ⟨(1, b), rfl, hbl.symm, rfl, ⟨trivial, by dsimp only; rw [hbl]; exact hm⟩, fun _ _ => ⟨(_, _), rfl, rfl, rfl, rfl, ?_, fun _ _ => ifB_eq e1 ⟨(0, a), rfl, hal.symm, rfl, ⟨trivial, by dsimp only; rw [hal]; exact hm⟩, fun _ _ => ⟨l, rfl, rfl, hm, fun _ _ => ⟨(0, l), rfl, rfl, rfl, ⟨trivial, hm⟩, fun _ _ => ⟨(_, _), rfl, rfl, rfl, rfl, ?_, fun _ _ => ⟨(), trivial, decide_eq_true e2, trivial⟩⟩⟩⟩⟩⟩⟩⟩
  · dsimp only
    rw [List.length_map, rankK_length, hal]
    exact hm
  · dsimp only
    rw [List.length_map, rankK_length, hal]
    exact hm
theorem good_vicis : Good Try.prog 28 VicIsL := good_of_owes hM hP GVT2 Try.func28 rfl (o_vicis ▸ p_vicis)
theorem good_viclight : Good Try.prog 27 VicLightL := good_of_owes hM hP GVT2 Try.func27 rfl (o_viclight ▸ p_viclight)
theorem good_vicrank : Good Try.prog 29 VicIsL := good_of_owes hM hP GVT2 Try.func29 rfl (o_vicrank ▸ p_vicrank)
theorem good_vicscores : Good Try.prog 30 VicLightL := good_of_owes hM hP GVT2 Try.func30 rfl (o_vicscores ▸ p_vicscores)
theorem law_two {α β : Type} {p q : Prop} (x0 : α) (x1 : β) (_ : p) (_ : q) : True := trivial
theorem law_one {α : Type} {p : Prop} (x0 : α) (_ : p) : True := trivial
-- LAW VictimIs kedgelaw12.VictimIs Sp.good_vicis Sp.law_two
-- LAW VictimLight kedgelaw12.VictimLight Sp.good_viclight Sp.law_one
-- LAW VictimRank kedgelaw12.VictimRank Sp.good_vicrank Sp.law_two
-- LAW VictimScores kedgelaw12.VictimScores Sp.good_vicscores Sp.law_one
end Sp
