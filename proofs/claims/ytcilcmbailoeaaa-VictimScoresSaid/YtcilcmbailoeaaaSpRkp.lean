/- Contracts kept: which one has to go, and in which order. -/
import Derived.Test.YtcilcmbailoeaaaSpRkt
set_option linter.all false
set_option maxRecDepth 10000
namespace Sp
open Go Go.Proofs Sx Go.Proofs.Ytcilcmbailoeaaa.Ma
theorem insK_eqf (key : En → Int) (x : En) : ∀ l, EqF key (insK key x l) (x :: l)
  | [] => EqF.refl _ _
  | y :: l => by
    unfold insK
    split
    · exact EqF.refl _ _
    · rename_i h
      have h1 : EqF key ([y] ++ insK key x l) ([y] ++ (x :: l)) := (EqF.refl key [y]).app (insK_eqf key x l)
      have h2 : EqF key (([y] ++ [x]) ++ l) (([x] ++ [y]) ++ l) := (EqF.swap (by intro a ha b hb; simp at ha hb; rw [ha, hb]; omega)).app (EqF.refl key l)
      exact h1.trans h2
theorem isK_eqf (key : En → Int) : ∀ l, EqF key (isK key l) l
  | [] => EqF.refl _ _
  | x :: l => (insK_eqf key x (isK key l)).trans (by
      have := (EqF.refl key [x]).app (isK_eqf key l)
      exact this)
theorem insK_sorted (key : En → Int) (x : En) : ∀ {l}, SortedK key l → SortedK key (insK key x l)
  | [], _ => List.pairwise_singleton _ _
  | y :: l, h => by
    have hp := List.pairwise_cons.1 h
    unfold insK
    split
    · rename_i hxy
      refine List.pairwise_cons.2 ⟨fun z hz => ?_, h⟩
      rcases List.mem_cons.1 hz with rfl | hz
      · exact hxy
      · have := hp.1 z hz
        omega
    · rename_i hxy
      refine List.pairwise_cons.2 ⟨fun z hz => ?_, insK_sorted key x hp.2⟩
      rcases List.mem_cons.1 (((insK_eqf key x l).length z).1 hz) with rfl | hz
      · omega
      · exact hp.1 z hz
theorem isK_sorted (key : En → Int) : ∀ l, SortedK key (isK key l)
  | [] => List.Pairwise.nil
  | x :: l => insK_sorted key x (isK_sorted key l)
theorem insK_length (key : En → Int) (x : En) : ∀ l, (insK key x l).length = l.length + 1
  | [] => rfl
  | y :: l => by
    unfold insK
    split
    · rfl
    · rw [List.length_cons, insK_length key x l, List.length_cons]
theorem isK_length (key : En → Int) : ∀ l, (isK key l).length = l.length
  | [] => rfl
  | x :: l => by rw [isK, insK_length, isK_length key l, List.length_cons]
theorem SSR.isK {key : En → Int} {l m : List En} (h : SSR key 0 l.length l m) : m = isK key l := by
  have e1 : mids m 0 l.length = m := by unfold mids; rw [List.drop_zero, List.take_of_length_le (by rw [h.len]; exact Nat.le_refl _)]
  have e2 : mids l 0 l.length = l := by unfold mids; rw [List.drop_zero, List.take_of_length_le (Nat.le_refl _)]
  have s := h.sorted
  have q := h.same
  rw [e1] at s q
  rw [e2] at q
  exact sorted_one s (isK_sorted key l) (q.trans (isK_eqf key l).symm)
theorem rankK_length (pol : Int) (l : List En) : (rankK pol l).length = l.length := by unfold rankK; rw [isK_length, List.length_reverse]
theorem ent_of {f : FuncId} {fn : Func} {c : Code} (h : Try.prog.funcs[f]? = some fn) (hb : fn.body = some c) : Ent Try.prog f := ⟨fn, c, h, hP f fn h, hb⟩
theorem g_sym1 : ∀ n, Good Try.prog 149 (SymS 140 key1 n)
  | 0 => ⟨ent_of Try.func149 rfl, by
      rintro ⟨xs, a, m, b⟩ ⟨h1, h2, _, _, h5, _⟩
      dsimp only at h1 h2 h5
      omega⟩
  | n + 1 => good_of_owes hM hP (goods_cons (g_sym1 n) GV1) Try.func149 rfl (Eq.mpr o_vsym (p_vsym key1) n)
theorem g_sym0 : ∀ n, Good Try.prog 149 (SymS 139 key0 n)
  | 0 => ⟨ent_of Try.func149 rfl, by
      rintro ⟨xs, a, m, b⟩ ⟨h1, h2, _, _, h5, _⟩
      dsimp only at h1 h2 h5
      omega⟩
  | n + 1 => good_of_owes hM hP (goods_cons (g_sym0 n) GV1) Try.func149 rfl (Eq.mpr o_vsym0 (p_vsym key0) n)
theorem GZ1 : Goods Try.prog Z1 := goods_cons (g_sym1 most) (goods_cons g_ins1 GV1)
theorem GZ0 : Goods Try.prog Z0 := goods_cons (g_sym0 most) (goods_cons g_ins0 GV1)
theorem GY2 : Goods Try.prog Y2 := goods_cons (good_of_owes hM hP GZ1 Try.func147 rfl (o_vstab ▸ p_vstab key1)) GV1
theorem GY3 : Goods Try.prog Y3 := goods_cons (good_of_owes hM hP GZ0 Try.func147 rfl (o_vstab0 ▸ p_vstab key0)) GV1
theorem p_vsort (key : En → Int) : T_vsort key := by
  intro xs hl
  exact ⟨xs, rfl, rfl, rfl, hl, fun y hy => ⟨y, hy, rfl, trivial⟩⟩
theorem GS1 : Goods Try.prog S1 := goods_cons (good_of_owes hM hP GY2 Try.func144 rfl (o_vsort ▸ p_vsort key1)) GV1
theorem GS0 : Goods Try.prog S0 := goods_cons (good_of_owes hM hP GY3 Try.func144 rfl (o_vsort0 ▸ p_vsort key0)) GV1
theorem chooseK_eq (pol : Int) {l : List En} (h : l.length ≠ 0) : chooseK pol l = (((rankK pol l).getD 0 (0, 0)).1, true) := by
  unfold chooseK
  have := rankK_length pol l
  match hr : rankK pol l with
  | [] => rw [hr] at this; simp at this; omega
  | e :: r => rfl
theorem p_vch1 : T_vch1 := by
  rintro ⟨pol, l⟩ ⟨rfl, hl⟩
  dsimp only at hl ⊢
  refine ifB_d (fun h => ?_) fun h => ifB_eq rfl ?_
  · obtain rfl : l = [] := List.eq_nil_of_length_eq_zero (by omega)
    exact ⟨(), trivial, rfl, rfl, trivial⟩
  · refine ⟨l, rfl, rfl, hl, fun _ _ => ⟨l, rfl, rfl, hl, fun y hy => ⟨y, by rw [hy, List.length_reverse], rfl, by rw [hy, List.length_reverse]; exact hl, fun z hz => ⟨by omega, (), trivial, ?_, ?_, trivial⟩⟩⟩⟩
    · rw [chooseK_eq 1 (by omega), hz.isK, hy]
      rfl
    · rw [chooseK_eq 1 (by omega)]
theorem p_vch0 : T_vch0 := by
  rintro ⟨pol, l⟩ ⟨hp, hl⟩
  dsimp only at hp hl ⊢
  have hk : keyOf pol = key0 := if_neg hp
  refine ifB_d (fun h => ?_) fun h => ifB_d (fun e => absurd e hp) fun _ => ?_
  · obtain rfl : l = [] := List.eq_nil_of_length_eq_zero (by omega)
    exact ⟨(), trivial, rfl, rfl, trivial⟩
  · refine ⟨l, rfl, rfl, hl, fun _ _ => ⟨l, rfl, rfl, hl, fun y hy => ⟨y, by rw [hy, List.length_reverse], rfl, by rw [hy, List.length_reverse]; exact hl, fun z hz => ⟨by omega, (), trivial, ?_, ?_, trivial⟩⟩⟩⟩
    · rw [chooseK_eq pol (by omega), hz.isK, hy]
      unfold rankK
      rw [hk]
    · rw [chooseK_eq pol (by omega)]
theorem take_get (l : List En) {i : Nat} (h : i < l.length) : (l.take (i + 1)).map (·.1) = (l.take i).map (·.1) ++ [(l.getD i (0, 0)).1] := by
  rw [List.take_succ, getD_some (0, 0) h, List.map_append]
  rfl
theorem p_vrk1 : T_vrk1 := by
  rintro ⟨pol, l⟩ ⟨rfl, hl⟩
  dsimp only at hl ⊢
  have hl' : l.length ≤ 1000000 := hl
  refine ifB_eq rfl ⟨l, rfl, rfl, hl, fun _ _ => ⟨l, rfl, rfl, hl, fun y hy => ⟨y, by rw [hy, List.length_reverse], rfl, by rw [hy, List.length_reverse]; exact hl, fun z hz => ?_⟩⟩⟩
  have hr : z = rankK 1 l := by rw [hz.isK, hy]; rfl
  have hzl := rankK_length 1 l
  rw [hr]
  refine ⟨fun x => 0 ≤ x.1 ∧ x.1 ≤ l.length ∧ x.2 = ((rankK 1 l).take x.1.toNat).map (·.1), fun x => (l.length - x.1).toNat, ⟨(0, []), ⟨by simp, by simp, by simp⟩, rfl, rfl, rfl, trivial⟩, ?_⟩
  rintro ⟨i, q⟩ ⟨i0, i1, i2⟩
  dsimp only at i0 i1 i2 ⊢
  subst i2
  have hq : ((rankK 1 l).take i.toNat).length ≤ 1000000 := by rw [List.length_take]; omega
  refine ifB_d (fun h => ⟨by omega, ⟨by rw [List.length_map, List.length_singleton]; omega, by rw [List.length_map, List.length_singleton]; omega⟩, by omega, (i + 1, ((rankK 1 l).take (i + 1).toNat).map (·.1)), ⟨by dsimp only; omega, by dsimp only; omega, rfl⟩, by dsimp only; omega, rfl, ?_, ?_, trivial⟩) fun h => ?_
  · dsimp only
    rw [show (i + 1).toNat = i.toNat + 1 by omega, take_get _ (by omega), List.length_append]
  · dsimp only
    rw [show (i + 1).toNat = i.toNat + 1 by omega, take_get _ (by omega)]
  · rw [List.take_of_length_le (by omega)]
    exact ⟨(), trivial, rfl, rfl, trivial⟩
theorem p_vrk0 : T_vrk0 := by
  rintro ⟨pol, l⟩ ⟨hp, hl⟩
  dsimp only at hp hl ⊢
  have hl' : l.length ≤ 1000000 := hl
  have hk : keyOf pol = key0 := if_neg hp
  refine ifB_d (fun e => absurd e hp) fun _ => ⟨l, rfl, rfl, hl, fun _ _ => ⟨l, rfl, rfl, hl, fun y hy => ⟨y, by rw [hy, List.length_reverse], rfl, by rw [hy, List.length_reverse]; exact hl, fun z hz => ?_⟩⟩⟩
  have hr : z = rankK pol l := by rw [hz.isK, hy, ← hk]; rfl
  have hzl := rankK_length pol l
  rw [hr]
  refine ⟨fun x => 0 ≤ x.1 ∧ x.1 ≤ l.length ∧ x.2 = ((rankK pol l).take x.1.toNat).map (·.1), fun x => (l.length - x.1).toNat, ⟨(0, []), ⟨by simp, by simp, by simp⟩, rfl, rfl, rfl, trivial⟩, ?_⟩
  rintro ⟨i, q⟩ ⟨i0, i1, i2⟩
  dsimp only at i0 i1 i2 ⊢
  subst i2
  have hq : ((rankK pol l).take i.toNat).length ≤ 1000000 := by rw [List.length_take]; omega
  refine ifB_d (fun h => ⟨by omega, ⟨by rw [List.length_map, List.length_singleton]; omega, by rw [List.length_map, List.length_singleton]; omega⟩, by omega, (i + 1, ((rankK pol l).take (i + 1).toNat).map (·.1)), ⟨by dsimp only; omega, by dsimp only; omega, rfl⟩, by dsimp only; omega, rfl, ?_, ?_, trivial⟩) fun h => ?_
  · dsimp only
    rw [show (i + 1).toNat = i.toNat + 1 by omega, take_get _ (by omega), List.length_append]
  · dsimp only
    rw [show (i + 1).toNat = i.toNat + 1 by omega, take_get _ (by omega)]
  · rw [List.take_of_length_le (by omega)]
    exact ⟨(), trivial, rfl, rfl, trivial⟩
theorem g_choose : Good Try.prog 91 (ChooseP fun _ => True) := by
  have h1 := good_of_owes hM hP GS1 Try.func91 rfl (o_vch1 ▸ p_vch1)
  have h0 := good_of_owes hM hP GS0 Try.func91 rfl (o_vch0 ▸ p_vch0)
  exact ⟨h1.1, fun x hx => if e : x.1 = 1 then h1.2 x ⟨e, hx.2⟩ else h0.2 x ⟨e, hx.2⟩⟩
theorem g_rank : Good Try.prog 94 (RankP fun _ => True) := by
  have h1 := good_of_owes hM hP GS1 Try.func94 rfl (o_vrk1 ▸ p_vrk1)
  have h0 := good_of_owes hM hP GS0 Try.func94 rfl (o_vrk0 ▸ p_vrk0)
  exact ⟨h1.1, fun x hx => if e : x.1 = 1 then h1.2 x ⟨e, hx.2⟩ else h0.2 x ⟨e, hx.2⟩⟩
end Sp
