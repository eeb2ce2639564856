/- Contracts kept: packets of the sixth version. -/
import Derived.Test.YtcilcmbailoeaaaSpI6t
import Derived.Test.YtcilcmbailoeaaaSpM20
set_option linter.all false
set_option maxRecDepth 10000
namespace Sp
open Go Go.Proofs Sx Go.Proofs.Ytcilcmbailoeaaa.Ma
theorem or_disj (a b k : Nat) (h : b < 2 ^ k) : a * 2 ^ k ||| b = a * 2 ^ k + b := by
  rw [← Nat.shiftLeft_eq, Nat.shiftLeft_add_eq_or_of_lt h]
theorem i64_or_disj (a b : Int) (k : Nat) (ha : 0 ≤ a) (hb : 0 ≤ b ∧ b < ((2 ^ k : Nat) : Int)) (h : a * ((2 ^ k : Nat) : Int) < 9223372036854775808) (hk : 2 ^ k ≤ 9223372036854775808) : bits .or .i64 (a * ((2 ^ k : Nat) : Int)) b = a * ((2 ^ k : Nat) : Int) + b := by
  obtain ⟨m, rfl⟩ : ∃ m : Nat, a = m := ⟨a.toNat, by omega⟩
  obtain ⟨n, rfl⟩ : ∃ n : Nat, b = n := ⟨b.toNat, by omega⟩
  have e : (m : Int) * ((2 ^ k : Nat) : Int) = ((m * 2 ^ k : Nat) : Int) := by rw [Int.natCast_mul]
  rw [e] at h ⊢
  rw [i64_or_nat _ _ (by omega) (by omega), or_disj _ _ _ (by omega)]
  rw [Int.natCast_add]
theorem i64_and20 (n : Int) : bits .and .i64 n 1048575 = n % 1048576 := by
  have h : (BitVec.ofInt 64 1048575).toNat = 2 ^ 20 - 1 := by decide
  have key : (BitVec.ofInt 64 n &&& BitVec.ofInt 64 1048575).toNat = (n % ((2 ^ 64 : Nat) : Int)).toNat % 2 ^ 20 := by
    rw [BitVec.toNat_and, BitVec.toNat_ofInt, h, Nat.and_two_pow_sub_one_eq_mod]
  show IntKind.i64.wrap ((BitVec.ofInt 64 n &&& BitVec.ofInt 64 1048575).toNat : Nat) = n % 1048576
  rw [key, IntKind.wrap_i64]
  omega
theorem p_number : T_number := by
  rintro l ⟨hb, hl⟩
  have hb : okB l := hb
  refine ⟨fun x => 0 ≤ x.1 ∧ x.1 ≤ l.length ∧ x.2 = numZ (l.take x.1.toNat), fun x => (l.length - x.1).toNat, ⟨(0, 0), ⟨by simp, by simp, rfl⟩, rfl, rfl, trivial⟩, ?_⟩
  rintro ⟨i, n⟩ ⟨h0, h1, h2⟩
  dsimp only at h0 h1 h2 ⊢
  refine ifB_d (fun h => ?_) fun h => ⟨(), trivial, by rw [h2, List.take_of_length_le (by omega)], trivial⟩
  have hr := numZ_range _ (okB_take hb i.toNat)
  rw [← h2, List.length_take, Nat.min_eq_left (by omega)] at hr
  have hn : n < 16777216 := by
    have : i.toNat = 0 ∨ i.toNat = 1 ∨ i.toNat = 2 ∨ i.toNat = 3 := by omega
    rcases this with e | e | e | e <;> rw [e] at hr <;> simp at hr <;> omega
  have hc := okB_getD hb i.toNat
  have e := i64_or_disj n (l.getD i.toNat 0) 8 hr.1 ⟨hc.1, by omega⟩ (by omega) (by decide)
  have e : bits .or .i64 (n * 256) (l.getD i.toNat 0) = n * 256 + l.getD i.toNat 0 := e
  rw [e]
  refine ⟨by omega, by omega, by omega, by omega, (i + 1, n * 256 + l.getD i.toNat 0), ⟨by dsimp only; omega, by dsimp only; omega, ?_⟩, by dsimp only; omega, rfl, rfl, trivial⟩
  dsimp only
  have hi : i.toNat < l.length := by omega
  rw [show (i + 1).toNat = i.toNat + 1 by omega, List.take_succ, List.getElem?_eq_getElem hi]
  show _ = numZ (l.take i.toNat ++ [l[i.toNat]])
  rw [numZ_snoc, ← h2, List.getD_eq_getElem?_getD, List.getElem?_eq_getElem hi]
  rfl
theorem p_contains : T_contains := by
  rintro ⟨p, a⟩ ⟨h1, h2⟩
  dsimp only at h1 h2 ⊢
  refine ⟨p, rfl, rfl, rfl, rfl, h1, fun _ _ => ifB_b (fun k => ⟨(a, p.2.2.2), rfl, rfl, rfl, rfl, h2, fun _ _ => ⟨(), trivial, ?_, trivial⟩⟩) fun k => ⟨(), trivial, by unfold contZ; rw [k]; rfl, trivial⟩⟩
  unfold contZ
  rw [k, Bool.true_and]
  dsimp only
  obtain ⟨p1, p2, p3, p4⟩ := p
  dsimp only
  generalize ofPf a p4 = q
  obtain ⟨q1, q2, q3, q4⟩ := q
  simp only [Prod.mk.injEq, Bool.decide_and]
theorem p_whole6 : T_whole6 := by
  intro a ha
  refine ifB_b (fun h => ⟨by omega, (), trivial, by rw [whole6_length], ?_, trivial⟩) fun h => ⟨a, rfl, rfl, rfl, ha, fun _ _ => ⟨(), trivial, ?_, ?_, trivial⟩⟩
  · have h : a.2.2 = false := by simpa using h
    unfold whole6
    rw [if_neg (by simp [h])]
  · have h : a.2.2 = true := by simpa using h
    rw [whole6_length, bytesA_length, h]; rfl
  · have h : a.2.2 = true := by simpa using h
    unfold whole6
    rw [if_pos h]
theorem p_grow : T_grow := by
  intro n hn
  refine ifB_d (fun h => by omega) fun h => ⟨by omega, by omega, ifB_d (fun h => ⟨rfl, by omega, by omega, (), trivial, rfl, by simp, trivial⟩) fun h => ⟨(), trivial, rfl, rfl, trivial⟩⟩
theorem GJ0 : Goods Try.prog J0 := goods_cons (good_of_owes hM hP GW1 Try.func136 rfl (o_number ▸ p_number)) (goods_cons (good_of_owes hM hP GW1 Try.func137 rfl (o_contains ▸ p_contains)) (goods_cons (good_of_owes hM hP GW1 Try.func125 rfl (o_whole6 ▸ p_whole6)) (goods_cons (good_of_owes hM hP GW1 Try.func138 rfl (o_grow ▸ p_grow)) GI0)))
theorem p_strange6 : T_strange6 := by
  rintro ⟨s, d⟩ ⟨hs, hd⟩
  dsimp only at hs hd ⊢
  have hm : wfA manyA := ⟨⟨by decide, by decide⟩, by decide, by decide⟩
  refine ⟨(manyA, 8), rfl, rfl, rfl, rfl, hm, fun _ _ => ⟨(ofPf manyA 8, s), rfl, rfl, rfl, rfl, rfl, rfl, rfl, ⟨?_, hs⟩, fun _ _ => ?_⟩⟩
  · rw [show ofPf manyA 8 = mkP manyA 8 by unfold ofPf; rw [many_sane.2]; rfl]
    exact hm
  dsimp only
  rw [contZ_many]
  unfold strange6
  refine ifB_b (fun h => ⟨(), trivial, by rw [h]; rfl, trivial⟩) fun h => ?_
  rw [h, Bool.false_or]
  have e : ∀ (a : Ad) (x y : Int), (decide (a.1 = x) && (decide (a.2.1 = y) && decide (a.2.2 = true))) = decide (a = (x, y, true)) := by
    rintro ⟨a, b, c⟩ x y
    simp only [Prod.mk.injEq, Bool.decide_and]
  rw [e s 0 1, e d 0 0]
  exact ifB_b (fun h => ⟨(), trivial, by rw [h]; rfl, trivial⟩) fun h => ⟨(), trivial, by rw [h]; rfl, trivial⟩
theorem p_read6 : T_read6 := by
  rintro b ⟨hb, hl⟩
  have hb : okB b := hb
  have hl : 40 ≤ b.length := hl
  have l4 : (b.take 4).length = 4 := by rw [List.length_take]; omega
  have l6 : ((b.take 6).drop 4).length = 2 := by rw [List.length_drop, List.length_take]; omega
  have l8 : ((b.drop 8).take 16).length = 16 := by rw [List.length_take, List.length_drop]; omega
  have l24 : ((b.drop 24).take 16).length = 16 := by rw [List.length_take, List.length_drop]; omega
  have b0 := okB_getD hb 0
  have b1 := okB_getD hb 1
  have b2 := okB_getD hb 2
  have b3 := okB_getD hb 3
  refine ⟨by omega, b.take 4, l4.symm, by rw [List.drop_zero], ⟨okB_take hb 4, by omega⟩, fun _ _ => ?_⟩
  rw [i64_and255, i64_and20, numZ_four (by omega)]
  generalize hx : b.getD 0 0 * 16777216 + b.getD 1 0 * 65536 + b.getD 2 0 * 256 + b.getD 3 0 = x
  have e1 : x / 1048576 % 256 = (read6 b).1 := by
    show _ = b.getD 0 0 % 16 * 16 + b.getD 1 0 / 16
    omega
  have e2 : x % 1048576 = (read6 b).2.1 := by
    show _ = b.getD 1 0 % 16 * 65536 + b.getD 2 0 * 256 + b.getD 3 0
    omega
  refine ⟨by omega, by omega, by omega, by omega, ⟨by omega, by omega, by omega, ⟨by omega, by omega, by omega, ?_, ?_⟩, by omega, by omega, by omega, ?_⟩, by omega, by omega, by omega, by omega, by omega, by omega, ?_⟩
  all_goals
    refine ⟨(b.take 6).drop 4, l6.symm, rfl, ⟨okB_drop (okB_take hb 6) 4, by omega⟩, fun _ _ => ⟨by omega, (b.drop 8).take 16, l8.symm, by rw [List.drop_take], okB_take (okB_drop hb _) _, fun _ _ => ⟨by omega, (b.drop 24).take 16, l24.symm, by rw [List.drop_take], okB_take (okB_drop hb _) _, fun _ _ => ⟨(), trivial, e1, e2, numZ_two (by omega), rfl, rfl, ?_⟩⟩⟩⟩
    rw [fromE_ok (b := (b.drop 8).take 16) (by omega), fromE_ok (b := (b.drop 24).take 16) (by omega)]
    exact ⟨rfl, rfl, rfl, rfl, rfl, rfl, trivial⟩
theorem GJ1 : Goods Try.prog J1 := goods_cons (good_of_owes hM hP GJ0 Try.func121 rfl (o_read6 ▸ p_read6)) (goods_cons (good_of_owes hM hP GJ0 Try.func122 rfl (o_strange6 ▸ p_strange6)) GJ0)
theorem wf_read6 {b : List Int} (hl : 40 ≤ b.length) : wfA (src6 (read6 b)) ∧ wfA (dst6 (read6 b)) := by
  constructor <;> exact wfA_ofB _ (by rw [bitsL_length, List.length_take, List.length_drop]; omega)
theorem out_bad6 {q : H6 × Int} {k : Int} (e : q = (z6, k)) : ∃ y : Unit, True ∧ 0 = q.1.1 ∧ 0 = q.1.2.1 ∧ 0 = q.1.2.2.1 ∧ 0 = q.1.2.2.2.1 ∧ 0 = q.1.2.2.2.2.1 ∧ 0 = q.1.2.2.2.2.2.1 ∧ 0 = q.1.2.2.2.2.2.2.1 ∧ false = q.1.2.2.2.2.2.2.2.1 ∧ 0 = q.1.2.2.2.2.2.2.2.2.1 ∧ 0 = q.1.2.2.2.2.2.2.2.2.2.1 ∧ false = q.1.2.2.2.2.2.2.2.2.2.2 ∧ k = q.2 ∧ True := by
  subst e
  exact ⟨(), trivial, rfl, rfl, rfl, rfl, rfl, rfl, rfl, rfl, rfl, rfl, rfl, rfl, trivial⟩
theorem p_parse6 : T_parse6 := by
  rintro b ⟨hb, hl⟩
  have hb : okB b := hb
  have hl : b.length ≤ 1000000 := hl
  refine ifB_d (fun h => out_bad6 (if_pos (by omega))) fun h => ⟨b, rfl, rfl, ⟨hb, by omega⟩, fun _ _ => ⟨by omega, by omega, ifB_nd (fun h2 => out_bad6 ?_) fun h2 => ⟨by omega, ifB_d (fun h3 => out_bad6 ?_) fun h3 => ⟨(src6 (read6 b), dst6 (read6 b)), rfl, rfl, rfl, rfl, rfl, rfl, wf_read6 (by omega), fun _ _ => ifB_b (fun h4 => out_bad6 ?_) fun h4 => ?_⟩⟩⟩⟩
  · unfold parse6; rw [if_neg (by omega), if_pos h2]
  · unfold parse6; rw [if_neg (by omega), if_neg (by omega), if_pos h3]
  · unfold parse6; rw [if_neg (by omega), if_neg (by omega), if_neg h3, if_pos h4]
  · have e : parse6 b = (read6 b, 0) := by unfold parse6; rw [if_neg (by omega), if_neg (by omega), if_neg h3, if_neg (by rw [h4]; decide)]
    rw [e]
    exact ⟨(), trivial, rfl, rfl, rfl, rfl, rfl, rfl, rfl, rfl, rfl, rfl, rfl, rfl, trivial⟩
theorem GJ2 : Goods Try.prog J2 := goods_cons (good_of_owes hM hP GJ1 Try.func80 rfl (o_parse6 ▸ p_parse6)) GJ1
theorem parse6_ok {b : List Int} (h : (parse6 b).2 = 0) : (parse6 b).1 = read6 b ∧ 40 ≤ b.length ∧ b.getD 0 0 / 16 = 6 ∧ 40 + (read6 b).2.2.1 ≤ b.length ∧ strange6 (src6 (read6 b)) (dst6 (read6 b)) = false := by
  unfold parse6 at h ⊢
  by_cases c1 : b.length < 40
  · rw [if_pos c1] at h; exact absurd h (by decide)
  rw [if_neg c1] at h ⊢
  by_cases c2 : b.getD 0 0 / 16 ≠ 6
  · rw [if_pos c2] at h; exact absurd h (by simp)
  rw [if_neg c2] at h ⊢
  by_cases c3 : (b.length : Int) - 40 < (read6 b).2.2.1
  · rw [if_pos c3] at h; exact absurd h (by simp)
  rw [if_neg c3] at h ⊢
  by_cases c4 : strange6 (src6 (read6 b)) (dst6 (read6 b)) = true
  · rw [if_pos c4] at h; exact absurd h (by simp)
  rw [if_neg c4]
  exact ⟨rfl, by omega, by omega, by omega, by simpa using c4⟩
theorem body_range {b : List Int} (hb : okB b) : 0 ≤ (read6 b).2.2.1 ∧ (read6 b).2.2.1 ≤ 65535 := wordZ_range hb 4
theorem p_hop6 : T_hop6 := by
  rintro b ⟨hb, hl⟩
  have hb : okB b := hb
  have hl : b.length ≤ 1000000 := hl
  have no : ((parse6 b).2 ≠ 0 ∨ (parse6 b).1.2.2.2.2.1 < 2) → ∃ y : Unit, True ∧ 0 = (hop6 b).1.length ∧ false = (hop6 b).2 ∧ [] = (hop6 b).1 ∧ True := fun h => by
    have e : hop6 b = ([], false) := if_pos h
    rw [e]
    exact ⟨(), trivial, rfl, rfl, rfl, trivial⟩
  refine ⟨b, rfl, rfl, ⟨hb, hl⟩, fun _ _ => ifB_nd (fun h => no (.inl h)) fun h => ifB_d (fun h' => no (.inr h')) fun h' => ?_⟩
  obtain ⟨e1, e2, e3, e4, e5⟩ := parse6_ok h
  have hr := body_range hb
  have eh : hop6 b = ((b.take (40 + (read6 b).2.2.1).toNat).set 7 ((read6 b).2.2.2.2.1 - 1), true) := by
    unfold hop6
    rw [if_neg (by omega), e1]
  rw [e1] at h' ⊢
  rw [eh]
  have b7 := okB_getD hb 7
  have h7 : (read6 b).2.2.2.2.1 = b.getD 7 0 := rfl
  have hlt : (b.take (40 + (read6 b).2.2.1).toNat).length = (40 + (read6 b).2.2.1).toNat := by rw [List.length_take]; omega
  refine ⟨by omega, by omega, b.take (40 + (read6 b).2.2.1).toNat, by rw [hlt]; omega, by rw [List.drop_zero], by show _ ≤ 1000000; omega, fun _ _ => ⟨by omega, by omega, (), trivial, by rw [List.length_set], rfl, ?_, trivial⟩⟩
  rw [getD_take (by omega), h7, Int.emod_eq_of_lt (by omega) (by omega)]
theorem p_build6 : T_build6 := by
  rintro ⟨h, body⟩ ⟨hw, hb⟩
  dsimp only at hw hb ⊢
  have hm : (min (body.length : Int) 2008).toNat = min body.length 2008 := by omega
  have hm2 : min body.length 2008 ≤ 2008 ∧ min body.length 2008 ≤ body.length := by omega
  rw [i64_and255, i64_and20, hm]
  have e1 : bits .or .i64 1610612736 (h.1 % 256 * 1048576) = 1610612736 + h.1 % 256 * 1048576 := i64_or_disj 6 (h.1 % 256 * 1048576) 28 (by omega) ⟨by omega, by omega⟩ (by omega) (by decide)
  have e2 : bits .or .i64 (1610612736 + h.1 % 256 * 1048576) (h.2.1 % 1048576) = 1610612736 + h.1 % 256 * 1048576 + h.2.1 % 1048576 := by
    have := i64_or_disj (1536 + h.1 % 256) (h.2.1 % 1048576) 20 (by omega) ⟨by omega, by omega⟩ (by omega) (by decide)
    have e : (1536 + h.1 % 256) * ((2 ^ 20 : Nat) : Int) = 1610612736 + h.1 % 256 * 1048576 := by omega
    rwa [e] at this
  rw [e1, e2]
  have l1 : (body.take (min body.length 2008)).length = min body.length 2008 := by rw [List.length_take]; omega
  have hh : ∀ n : Nat, [(1610612736 + h.1 % 256 * 1048576 + h.2.1 % 1048576) / 16777216 % 256, (1610612736 + h.1 % 256 * 1048576 + h.2.1 % 1048576) / 65536 % 256, (1610612736 + h.1 % 256 * 1048576 + h.2.1 % 1048576) / 256 % 256, (1610612736 + h.1 % 256 * 1048576 + h.2.1 % 1048576) % 256, (n : Int) / 256 % 256, (n : Int) % 256, h.2.2.2.1 % 256, h.2.2.2.2.1 % 256] = [96 + h.1 % 256 / 16, h.1 % 16 * 16 + h.2.1 % 1048576 / 65536, h.2.1 / 256 % 256, h.2.1 % 256, (n : Int) / 256 % 256, (n : Int) % 256, h.2.2.2.1 % 256, h.2.2.2.2.1 % 256] := fun n => by
    generalize h.1 = c
    generalize h.2.1 = f
    simp only [List.cons.injEq, and_true]
    exact ⟨by omega, by omega, by omega, by omega⟩
  rw [hh]
  have hbl : (build6 h body).length = 40 + min body.length 2008 := by
    unfold build6 head6
    simp only [List.length_append, whole6_length, List.length_cons, List.length_nil, List.length_take]
    omega
  have hfin : [] ++ [96 + h.1 % 256 / 16, h.1 % 16 * 16 + h.2.1 % 1048576 / 65536, h.2.1 / 256 % 256, h.2.1 % 256, ((min body.length 2008 - 0 : Nat) : Int) / 256 % 256, ((min body.length 2008 - 0 : Nat) : Int) % 256, h.2.2.2.1 % 256, h.2.2.2.2.1 % 256] ++ whole6 (src6 h) ++ whole6 (dst6 h) ++ List.drop 0 (List.take (min body.length 2008) body) = build6 h body := by
    have e3 : ((min body.length 2008 : Nat) : Int) / 256 % 256 = ((min body.length 2008 : Nat) : Int) / 256 := by omega
    have e4 : body.take (min body.length 2008) = body.take 2008 := by
      rcases Nat.le_total body.length 2008 with k | k
      · rw [Nat.min_eq_left k, List.take_of_length_le (Nat.le_refl _), List.take_of_length_le k]
      · rw [Nat.min_eq_right k]
    unfold build6 head6
    rw [Nat.sub_zero, List.drop_zero, e3, e4]
    rfl
  simp only [whole6_length, List.length_cons, List.length_nil, List.drop_zero, l1, hbl]
  simp only [List.drop_zero] at hfin
  refine ⟨by omega, by omega, by omega, by omega, by omega, by omega, by omega, by omega, by omega, by omega, by omega, by omega, by omega, src6 h, rfl, rfl, rfl, hw.1, fun _ _ => ⟨dst6 h, rfl, rfl, rfl, hw.2, fun _ _ => ?_⟩⟩
  refine ⟨by omega, by omega, by omega, by omega, by omega, by omega, by omega, by omega, by omega, by omega, by omega, by omega, _, rfl, by omega, fun _ _ => ?_⟩
  repeat' refine And.intro ?_ ?_
  all_goals first | omega | skip
  exact ⟨(), trivial, by omega, hfin, trivial⟩
theorem GJ3 : Goods Try.prog J3 := goods_cons (good_of_owes hM hP GJ2 Try.func82 rfl (o_hop6 ▸ p_hop6)) (goods_cons (good_of_owes hM hP GJ2 Try.func85 rfl (o_build6 ▸ p_build6)) GJ2)
end Sp
