/- Contracts kept: laws of layer 21. -/
import Derived.Test.YtcilcmbailoeaaaSpM21
import Derived.Test.YtcilcmbailoeaaaSpL21a
import Derived.Test.YtcilcmbailoeaaaSpL21b
import Derived.Test.YtcilcmbailoeaaaSpL21c
import Derived.Test.YtcilcmbailoeaaaSpL21d
set_option linter.all false
set_option maxRecDepth 10000
namespace Sp
open Go Go.Proofs Sx Go.Proofs.Ytcilcmbailoeaaa.Ma
def aH6 (l : Int) : H6 := mk6 0 0 0 0 l (2306139568115548160, 9, true) (2306139568115548160, 9, true)
theorem okB_x : okB [120] := by intro x hx; simp at hx; omega
theorem okB_dec {l : List Int} (h : l.all (fun x => decide (0 ≤ x) && decide (x ≤ 255)) = true) : okB l := fun x hx => by
  have := List.all_eq_true.1 h x hx
  simpa using this
theorem p_aw21 : T_aw21 := by
  intro _ _
  have w : wfH6 (aH6 2) := by constructor <;> constructor <;> constructor <;> decide
  have o1 : okB (build6 (aH6 2) [120]) := okB_build6 _ okB_x
  have o2 : okB (hop6 (build6 (aH6 2) [120])).1 := okB_dec (by decide +kernel)
  refine ⟨by omega, (aH6 2, [120]), rfl, rfl, rfl, rfl, rfl, rfl, rfl, rfl, rfl, rfl, rfl, rfl, rfl, ⟨w, okB_x⟩, fun _ _ => ⟨_, rfl, rfl, ⟨o1, by decide +kernel⟩, fun _ _ => ⟨_, rfl, rfl, ⟨o2, by decide +kernel⟩, fun _ _ => ⟨_, rfl, rfl, ⟨o2, by decide +kernel⟩, fun _ _ => ?_⟩⟩⟩⟩
  exact ifB_tb (by decide +kernel) (ifB_nb' (by decide +kernel) (ifB_eq (by decide +kernel) (ifB_eq (by decide +kernel) (ifB_eq (by decide +kernel) ⟨(), trivial, by decide +kernel, trivial⟩))))
theorem p_short6 : T_short6 := by
  rintro ⟨b, m⟩ ⟨hb, hm⟩
  dsimp only at hb hm ⊢
  have hb : okB b := hb
  have hm : okB m := hm
  refine ⟨(), trivial, fun _ _ => ifB_d (fun _ => ⟨(), trivial, rfl, trivial⟩) fun hl => ifB_d (fun _ => ⟨(), trivial, rfl, trivial⟩) fun hl2 => ⟨b, rfl, rfl, ⟨hb, by show _ ≤ 1000000; omega⟩, fun _ _ => ifB_nd (fun c => ?_) fun h => ?_⟩⟩
  · rw [(parse6_bad c).1]
    exact ⟨(), trivial, by decide, trivial⟩
  obtain ⟨e1, e2, e3, e4, e5⟩ := parse6_ok h
  have hr := body_range hb
  rw [e1]
  have hlt : (b.take (40 + (read6 b).2.2.1).toNat).length = (40 + (read6 b).2.2.1).toNat := by rw [List.length_take]; omega
  have hx := parse6_ext (c := b.take (40 + (read6 b).2.2.1).toNat ++ m) hb h (by rw [List.take_append_of_le_length (by omega), List.take_take, Nat.min_self]) (by rw [List.length_append]; omega)
  have hc := parse6_cut hb h
  simp only [List.nil_append, List.drop_zero, hlt]
  refine ⟨by omega, ifB_d (fun k => by omega) fun _ => ⟨by omega, by omega, by omega, _, by rw [List.length_append, hlt]; omega, rfl, ⟨okB_append (okB_take hb _) hm, by show _ ≤ 1000000; rw [List.length_append, hlt]; omega⟩, fun _ _ => ⟨by omega, by omega, _, by rw [List.length_take]; omega, rfl, ⟨okB_take hb _, by show _ ≤ 1000000; rw [List.length_take]; omega⟩, fun _ _ => ?_⟩⟩⟩
  rw [hx]
  refine ifB_eq rfl (ifB_tb (by simp) ?_)
  rw [hc]
  by_cases c1 : (read6 b).2.2.1 = 0
  · rw [if_pos c1]
    exact ifB_d (fun k => absurd k (by decide)) fun _ => ifB_eq rfl ⟨(), trivial, by rw [c1]; rfl, trivial⟩
  · rw [if_neg c1]
    exact ifB_eq rfl (by first | exact ⟨(), trivial, rfl, trivial⟩ | simp)
theorem u8_or_hi : ∀ a : Nat, a < 16 → ∀ v : Nat, v < 16 → bits .or .u8 (a : Int) ((v : Int) * 16) = v * 16 + a := by decide +kernel
theorem p_wrong6 : T_wrong6 := by
  rintro ⟨b, v⟩ ⟨hb, hv⟩
  dsimp only at hb hv ⊢
  have hb : okB b := hb
  have b0 := okB_getD hb 0
  have key : 40 ≤ b.length → v % 16 ≠ 6 → okB (b.set 0 (v % 16 * 16 + b.getD 0 0 % 16)) ∧ parse6 (b.set 0 (v % 16 * 16 + b.getD 0 0 % 16)) = (z6, 2) ∧ hop6 (b.set 0 (v % 16 * 16 + b.getD 0 0 % 16)) = ([], false) := fun h1 h2 => by
    have hp : parse6 (b.set 0 (v % 16 * 16 + b.getD 0 0 % 16)) = (z6, 2) := by
      unfold parse6
      rw [if_neg (by rw [List.length_set]; omega), getD_set_eq (by omega), if_pos (by omega)]
    exact ⟨okB_set hb 0 ⟨by omega, by omega⟩, hp, hop6_no (.inl (by rw [hp]; decide))⟩
  have e1 : bits .and .u8 v 15 = v % 16 := and_nib v hv.1 hv.2
  have e2 : bits .and .u8 (b.getD 0 0) 15 = b.getD 0 0 % 16 := and_nib _ b0.1 b0.2
  have e3 : bits .or .u8 (b.getD 0 0 % 16) (v * 16 % 256) = v % 16 * 16 + b.getD 0 0 % 16 := by
    have := u8_or_hi (b.getD 0 0 % 16).toNat (by omega) (v % 16).toNat (by omega)
    rw [Int.toNat_of_nonneg (by omega), Int.toNat_of_nonneg (by omega)] at this
    rw [show v * 16 % 256 = v % 16 * 16 by omega]
    exact this
  refine ⟨(), trivial, fun _ _ => ifB_d (fun _ => ⟨(), trivial, rfl, trivial⟩) fun hl => ⟨b, rfl, rfl, ⟨hb, by show _ ≤ 1000000; omega⟩, fun _ _ => ?_⟩⟩
  simp only [List.nil_append, e1, e2, e3]
  have nd1 : decide ((parse6 b).2 = 1) = decide ((b.length : Int) < 40) := by
    rw [decide_eq_decide, parse6_short]
    omega
  refine ifB_nd (fun c => ?_) fun h => ?_
  · obtain ⟨q1, q2⟩ := parse6_bad c
    rw [q1]
    refine ifB_fb (by decide) ?_
    refine ifB_nd (fun n1 => ifB_nd (fun n2 => ifB_nd (fun n4 => ifB_nd (fun n6 => by omega) fun _ => ?_) fun _ => ?_) fun _ => ?_) fun _ => ?_
    all_goals
      refine ifB_ne nd1 (ifB_d (fun _ => by first | exact ⟨(), trivial, rfl, trivial⟩ | simp) fun h40 => ifB_d (fun _ => by first | exact ⟨(), trivial, rfl, trivial⟩ | simp) fun h6 => ?_)
      obtain ⟨k1, k2, k3⟩ := key (by omega) h6
      refine ⟨by omega, by omega, by omega, by omega, _, by rw [List.length_set]; omega, rfl, ⟨k1, by show _ ≤ 1000000; rw [List.length_set]; omega⟩, fun _ _ => ⟨_, by rw [List.length_set]; omega, rfl, ⟨k1, by show _ ≤ 1000000; rw [List.length_set]; omega⟩, fun _ _ => ?_⟩⟩
      rw [k2, k3]
      exact ifB_eq rfl (by first | exact ⟨(), trivial, rfl, trivial⟩ | simp)
  · have hl40 := (parse6_ok h).2.1
    refine ifB_ne nd1 (ifB_d (fun _ => by first | exact ⟨(), trivial, rfl, trivial⟩ | simp) fun h40 => ifB_d (fun _ => by first | exact ⟨(), trivial, rfl, trivial⟩ | simp) fun h6 => ?_)
    obtain ⟨k1, k2, k3⟩ := key (by omega) h6
    refine ⟨by omega, by omega, by omega, by omega, _, by rw [List.length_set]; omega, rfl, ⟨k1, by show _ ≤ 1000000; rw [List.length_set]; omega⟩, fun _ _ => ⟨_, by rw [List.length_set]; omega, rfl, ⟨k1, by show _ ≤ 1000000; rw [List.length_set]; omega⟩, fun _ _ => ?_⟩⟩
    rw [k2, k3]
    exact ifB_eq rfl (by first | exact ⟨(), trivial, rfl, trivial⟩ | simp)
theorem p_hops6 : T_hops6 := by
  intro b hb
  have hb : okB b := hb
  refine ⟨(), trivial, fun _ _ => ifB_d (fun _ => ⟨(), trivial, rfl, trivial⟩) fun hl => ⟨b, rfl, rfl, ⟨hb, by show _ ≤ 1000000; omega⟩, fun _ _ => ⟨b, rfl, rfl, ⟨hb, by show _ ≤ 1000000; omega⟩, fun _ _ => ifB_d (fun h => ?_) fun h => ?_⟩⟩⟩
  · have t7 : (read6 b).2.2.2.2.1 = b.getD 7 0 := rfl
    have b7 := okB_getD hb 7
    have hr := body_range hb
    obtain ⟨e1, e2, e3, e4, e5⟩ := parse6_ok h
    by_cases h2 : 2 ≤ (read6 b).2.2.2.2.1
    · obtain ⟨c1, c2, c3, c4, c5, c6⟩ := hop6_law hb h h2
      rw [c1, e1]
      dsimp only
      generalize hopC6 b = c at *
      refine ifB_ne (by simp [h2]) (ifB_fb rfl ⟨by omega, ifB_ne (by omega) (ifB_d (fun k => by omega) fun _ => ?_)⟩)
      refine ⟨fun i => 0 ≤ i ∧ i ≤ c.length, fun i => (c.length - i).toNat, ⟨0, ⟨by omega, by omega⟩, rfl, trivial⟩, fun i hi => ifB_d (fun hi2 => ?_) fun hi2 => ?_⟩
      · have nx : (-9223372036854775808 ≤ i + 1 ∧ i + 1 ≤ 9223372036854775807) ∧ ∃ y : Int, (0 ≤ y ∧ y ≤ c.length) ∧ ((c.length : Int) - y).toNat < ((c.length : Int) - i).toNat ∧ i + 1 = y ∧ True := ⟨by omega, i + 1, ⟨by omega, by omega⟩, by omega, rfl, trivial⟩
        refine ifB_nd (fun n7 => ⟨by omega, by omega, ifB_ne (c5 i.toNat (by omega) (by omega)) (ifB_d (fun k => absurd k n7) fun _ => nx)⟩) fun h7 => ifB_eq h7 ⟨by omega, by omega, ifB_ne (by subst h7; exact c4) nx⟩
      · refine ⟨fun x => okB x.1 ∧ x.1.length ≤ 1000000 ∧ 0 ≤ x.2.2 ∧ ((x.2.1 = true ∧ (parse6 x.1).2 = 0 ∧ 1 ≤ (parse6 x.1).1.2.2.2.2.1 ∧ x.2.2 + (parse6 x.1).1.2.2.2.2.1 = (read6 b).2.2.2.2.1 - 1) ∨ (x.2.1 = false ∧ x.2.2 = (read6 b).2.2.2.2.1 - 1)), fun x => (300 - x.2.2).toNat + x.2.1.toNat, ⟨(c, true, 0), ⟨c2, by dsimp only; omega, by dsimp only; omega, .inl ⟨rfl, by rw [c6], by rw [c6]; dsimp only; omega, by rw [c6]; dsimp only; omega⟩⟩, rfl, rfl, rfl, rfl, trivial⟩, ?_⟩
        rintro ⟨l, ok, n⟩ ⟨i1, i2, i3, i4⟩
        dsimp only at i1 i2 i3 i4 ⊢
        have fin : n = (read6 b).2.2.2.2.1 - 1 → (-9223372036854775808 ≤ (read6 b).2.2.2.2.1 - 1 ∧ (read6 b).2.2.2.2.1 - 1 ≤ 9223372036854775807) ∧ ∃ y : Unit, True ∧ decide (n = (read6 b).2.2.2.2.1 - 1) = true ∧ True := fun h => ⟨by omega, (), trivial, decide_eq_true h, trivial⟩
        refine ifB_b (fun hok => ifB_d (fun hn => ?_) fun hn => fin ?_) fun hok => fin ?_
        · subst hok
          obtain ⟨-, j1, j2, j3⟩ := i4.resolve_right (by simp)
          refine ⟨l, rfl, rfl, ⟨i1, i2⟩, fun _ _ => ⟨by omega, ((hop6 l).1, (hop6 l).2, n + 1), ?_, ?_, rfl, rfl, rfl, rfl, trivial⟩⟩
          · have k1 := (parse6_ok j1).1
            have k7 := (parse6_ok j1).2.2.2.1
            by_cases k : 2 ≤ (read6 l).2.2.2.2.1
            · obtain ⟨d1, d2, d3, d4, d5, d6⟩ := hop6_law i1 j1 k
              rw [d1]
              dsimp only
              refine ⟨d2, by omega, by omega, .inl ⟨rfl, by rw [d6], by rw [d6]; dsimp only; omega, by rw [d6]; dsimp only; rw [k1] at j3; omega⟩⟩
            · rw [hop6_no (.inr (by rw [k1]; omega))]
              dsimp only
              rw [k1] at j2 j3
              exact ⟨by intro x hx; simp at hx, by simp, by omega, .inr ⟨rfl, by omega⟩⟩
          · have : (hop6 l).2.toNat ≤ 1 := Bool.toNat_le _
            dsimp only
            have h1 : true.toNat = 1 := rfl
            omega
        · subst hok
          obtain ⟨-, j1, j2, j3⟩ := i4.resolve_right (by simp)
          omega
        · subst hok
          exact (i4.resolve_left (by simp)).2
    · rw [hop6_no (.inr (by rw [e1]; omega)), e1]
      dsimp only
      refine ifB_ne (by simp; omega) (ifB_tb rfl ⟨(), trivial, rfl, trivial⟩)
  · rw [hop6_no (.inl h)]
    dsimp only
    exact ifB_ne rfl (ifB_tb rfl ⟨(), trivial, rfl, trivial⟩)
theorem e3A : ∀ (a : Ad) (x y : Int) (z : Bool), (decide (a.1 = x) && (decide (a.2.1 = y) && decide (a.2.2 = z))) = decide (a = (x, y, z)) := by
  rintro ⟨a, b, c⟩ x y z
  simp only [Prod.mk.injEq, Bool.decide_and]
theorem p_back6 : T_back6 := by
  rintro ⟨h, body⟩ ⟨hw, hb⟩
  dsimp only at hw hb ⊢
  have hb : okB body := hb
  refine ⟨(), trivial, fun _ _ => ifB_d (fun _ => ⟨(), trivial, rfl, trivial⟩) fun hl => ifB_b (fun _ => ⟨(), trivial, rfl, trivial⟩) fun hs => ifB_b (fun _ => ⟨(), trivial, rfl, trivial⟩) fun hd => ⟨(h, body), rfl, rfl, rfl, rfl, rfl, rfl, rfl, rfl, rfl, rfl, rfl, rfl, rfl, ⟨hw, hb⟩, fun _ _ => ?_⟩⟩
  have hs : (src6 h).2.2 = true := by simpa using hs
  have hd : (dst6 h).2.2 = true := by simpa using hd
  obtain ⟨⟨q1, q2⟩, q3, q4⟩ := build6_law h hw hb (by omega) hs hd
  have hB := okB_build6 h hb
  dsimp only
  rw [i64_and255, i64_and255, i64_and255, i64_and20]
  generalize build6 h body = b at *
  have hst : strange6 (src6 h) (dst6 h) = true → ∃ y : Unit, True ∧ decide ((parse6 b).2 = 6) = true ∧ True := fun k => ⟨(), trivial, by rw [q4, if_pos k]; rfl, trivial⟩
  have hmask : maskA (src6 h) 8 = manyA ↔ (maskA (src6 h) 8).1 = 18374686479671623680 := by
    refine ⟨fun e => by rw [e]; rfl, fun e => ?_⟩
    have := mask8_lo (src6 h)
    exact Prod.ext e (Prod.ext this.1 (this.2.trans hs))
  refine ⟨b, rfl, rfl, ⟨hB, by show _ ≤ 1000000; omega⟩, fun _ _ => ⟨by omega, ifB_ne (by omega) ⟨by omega, ifB_ne (by rw [List.take_length, q2]) ⟨(src6 h, 8), rfl, rfl, rfl, rfl, hw.1, fun _ _ => ?_⟩⟩⟩⟩
  have f1 := e3A (src6 h) 0 1 true
  have f2 := e3A (dst6 h) 0 0 true
  dsimp only at f1 f2 ⊢
  rw [f1, f2]
  refine ifB_d (fun k => hst (by unfold strange6; rw [decide_eq_true (hmask.2 k)]; rfl)) fun k1 => ifB_d (fun k => hst (by unfold strange6; rw [decide_eq_true k]; simp)) fun k2 => ifB_d (fun k => hst (by unfold strange6; rw [decide_eq_true k]; simp)) fun k3 => ?_
  have ns : ¬ strange6 (src6 h) (dst6 h) = true := by unfold strange6; rw [decide_eq_false (fun e => k1 (hmask.1 e)), decide_eq_false k2, decide_eq_false k3]; decide
  rw [q4, if_neg ns, q3]
  dsimp only
  exact ifB_eq rfl (ifB_eq rfl (ifB_eq rfl (ifB_eq rfl (ifB_eq rfl (ifB_eq rfl (ifB_tb (by simp) ⟨(), trivial, by simp, trivial⟩))))))
theorem wf_b21 {b : List Int} (h : wfT u8K b) : okB b := fun x hx => by
  have h1 : (L.i .u8 x).wf := h x hx _ (by simp [leafs, Kd.leaf])
  simpa [L.wf, Sx.lo, Sx.hi] using h1
theorem wf_h21 {r : H6} (h : ∀ l ∈ leafs h6K r, l.wf) : wfH6 r := by
  obtain ⟨a, b, c, d, e, s1, s2, s3, d1, d2, d3⟩ := r
  have h1 : (L.i .u64 s1).wf := h _ (by simp [leafs, Kd.leaf])
  have h2 : (L.i .u64 s2).wf := h _ (by simp [leafs, Kd.leaf])
  have h3 : (L.i .u64 d1).wf := h _ (by simp [leafs, Kd.leaf])
  have h4 : (L.i .u64 d2).wf := h _ (by simp [leafs, Kd.leaf])
  simp only [L.wf, Sx.lo, Sx.hi] at h1 h2 h3 h4
  exact ⟨⟨⟨h1.1, by show s1 < _; omega⟩, h2.1, by show s2 < _; omega⟩, ⟨h3.1, by show d1 < _; omega⟩, h4.1, by show d2 < _; omega⟩
theorem g_aw21 : Good Try.prog 79 Aw21 := good_of_owes hM hP GJ3 Try.func79 rfl (o_aw21 ▸ p_aw21)
theorem GL21 : Goods Try.prog L21 := goods_cons g_aw21 GJ3
theorem g_back6 : Good Try.prog 23 Back6L := good_of_owes hM hP GL21 Try.func23 rfl (o_back6 ▸ p_back6)
theorem g_wrong6 : Good Try.prog 26 Wrong6L := good_of_owes hM hP GL21 Try.func26 rfl (o_wrong6 ▸ p_wrong6)
theorem g_short6 : Good Try.prog 25 Short6L := good_of_owes hM hP GL21 Try.func25 rfl (o_short6 ▸ p_short6)
theorem g_hops6 : Good Try.prog 24 Hops6L := good_of_owes hM hP GL21 Try.func24 rfl (o_hops6 ▸ p_hops6)
theorem law_back6 (h : H6) (b : List Int) (w : ∀ l ∈ leafs h6K h, l.wf) (k : wfT u8K b) : Back6L.pre (h, b) := ⟨wf_h21 w, wf_b21 k⟩
theorem law_wrong6 (b : List Int) (n : Int) (k : wfT u8K b) (h : lo .u8 ≤ n ∧ n ≤ hi .u8) : Wrong6L.pre (b, n) := ⟨wf_b21 k, h⟩
theorem law_short6 (b m : List Int) (k : wfT u8K b) (k2 : wfT u8K m) : Short6L.pre (b, m) := ⟨wf_b21 k, wf_b21 k2⟩
theorem law_hops6 (b : List Int) (k : wfT u8K b) : Hops6L.pre b := wf_b21 k
-- LAW Ipv6Back kedgelaw21.Ipv6Back Sp.g_back6 Sp.law_back6
-- LAW Ipv6Wrong kedgelaw21.Ipv6Wrong Sp.g_wrong6 Sp.law_wrong6
-- LAW Ipv6Short kedgelaw21.Ipv6Short Sp.g_short6 Sp.law_short6
-- LAW Ipv6Hops kedgelaw21.Ipv6Hops Sp.g_hops6 Sp.law_hops6
end Sp
