-- Written by kprint.py, a program of this session, over the kit's print.py; functions marked HAND are our own texts.
import Derived.Test.YtcilcmbailoeaaaKSx0
import Derived.Test.YtcilcmbailoeaaaKSx1
import Derived.Test.YtcilcmbailoeaaaKSx2
namespace Go.Proofs.Ytcilcmbailoeaaa.KS
open Go.RowKit Go.Proofs.YtcilcmbailoeaaaW.PrintWords Go.Proofs.YtcilcmbailoeaaaW.PrintLast Go.Proofs.YtcilcmbailoeaaaW.PrintMore
attribute [local go_sem] max2_int min2_int max_two min_two max_three min_three max_four min_four   -- for this text's walks alone
set_option linter.unusedVariables false
set_option linter.unusedSimpArgs false

/-! ### kedgelaw19_SumsFill: function 5 -/
mutual
def kedgelaw19_SumsFill.j0 : Nat → List Int → Int → Bool → Bool → Option (Bool)
  | 0, _, _, _, _ => none
  | k + 1, x0, x1, x5, x20 => if x20 = true then (some x5) else (if (wrap64 ((x0.length : Int) / 2)) = 0 then (none) else ((sums_Fill.f x0 (wrap64 ((Int.tmod (Go.bits .and .i64 x1 65535) (wrap64 ((x0.length : Int) / 2))) * 2))).bind fun bt157 => ((sums_Fill.f bt157.1 (wrap64 ((Int.tmod (Go.bits .and .i64 x1 65535) (wrap64 ((x0.length : Int) / 2))) * 2))).bind fun bt161 => (if bt157.2 = true then (if bt161.2 = true then (if (bt157.1.length : Int) = (x0.length : Int) then (if (strOfNums bt157.1).toList = (strOfNums bt161.1).toList then ((sums_Check.f bt157.1).bind fun t165 => (kedgelaw19_SumsFill.j1 k x0 x5 (wrap64 ((Int.tmod (Go.bits .and .i64 x1 65535) (wrap64 ((x0.length : Int) / 2))) * 2)) bt157.1 (!t165))) else (kedgelaw19_SumsFill.j1 k x0 x5 (wrap64 ((Int.tmod (Go.bits .and .i64 x1 65535) (wrap64 ((x0.length : Int) / 2))) * 2)) bt157.1 true)) else (kedgelaw19_SumsFill.j1 k x0 x5 (wrap64 ((Int.tmod (Go.bits .and .i64 x1 65535) (wrap64 ((x0.length : Int) / 2))) * 2)) bt157.1 true)) else (kedgelaw19_SumsFill.j1 k x0 x5 (wrap64 ((Int.tmod (Go.bits .and .i64 x1 65535) (wrap64 ((x0.length : Int) / 2))) * 2)) bt157.1 true)) else (kedgelaw19_SumsFill.j1 k x0 x5 (wrap64 ((Int.tmod (Go.bits .and .i64 x1 65535) (wrap64 ((x0.length : Int) / 2))) * 2)) bt157.1 true)))))
def kedgelaw19_SumsFill.j1 : Nat → List Int → Bool → Int → List Int → Bool → Option (Bool)
  | 0, _, _, _, _, _ => none
  | k + 1, x0, x5, x6, x7, x65 => if x65 = true then (some false) else (kedgelaw19_SumsFill.l0 k x0 x5 x6 x7 0)
def kedgelaw19_SumsFill.l0 : Nat → List Int → Bool → Int → List Int → Int → Option (Bool)
  | 0, _, _, _, _, _ => none
  | k + 1, x0, x5, x6, x7, x11 => if x11 < (x0.length : Int) then (if x11 = x6 then (kedgelaw19_SumsFill.l0 k x0 x5 x6 x7 (wrap64 (x11 + 1))) else (if x11 = (wrap64 (x6 + 1)) then (kedgelaw19_SumsFill.l0 k x0 x5 x6 x7 (wrap64 (x11 + 1))) else (if 0 ≤ x11 then (if x11 < (x7.length : Int) then (if (rd x7 x11) = (rd x0 x11) then (kedgelaw19_SumsFill.l0 k x0 x5 x6 x7 (wrap64 (x11 + 1))) else (some false)) else (none)) else (none)))) else (some x5)
end
def kedgelaw19_SumsFill.f (k : Nat) (l0 : List Int) (a1 : Int) : Option (Bool) := (kedgelaw19_awake.f k).bind fun t156 => (if (l0.length : Int) > 3000 then (kedgelaw19_SumsFill.j0 k l0 a1 t156 true) else (kedgelaw19_SumsFill.j0 k l0 a1 t156 (decide ((l0.length : Int) < 2))))
theorem kedgelaw19_SumsFill.mono_l : ∀ k, (∀ y0 y1 y2 y3, LeO (kedgelaw19_SumsFill.j0 k y0 y1 y2 y3) (kedgelaw19_SumsFill.j0 (k + 1) y0 y1 y2 y3)) ∧ (∀ y0 y1 y2 y3 y4, LeO (kedgelaw19_SumsFill.j1 k y0 y1 y2 y3 y4) (kedgelaw19_SumsFill.j1 (k + 1) y0 y1 y2 y3 y4)) ∧ (∀ y0 y1 y2 y3 y4, LeO (kedgelaw19_SumsFill.l0 k y0 y1 y2 y3 y4) (kedgelaw19_SumsFill.l0 (k + 1) y0 y1 y2 y3 y4))
  | 0 => ⟨fun _ _ _ _ r h => by simp [kedgelaw19_SumsFill.j0] at h, fun _ _ _ _ _ r h => by simp [kedgelaw19_SumsFill.j1] at h, fun _ _ _ _ _ r h => by simp [kedgelaw19_SumsFill.l0] at h⟩
  | k + 1 => by
    obtain ⟨ih0, ih1, ih2⟩ := kedgelaw19_SumsFill.mono_l k
    refine ⟨?_, ?_, ?_⟩
    · intro y0 y1 y2 y3
      unfold kedgelaw19_SumsFill.j0
      repeat' first
      | (with_reducible exact ih0 _ _ _ _)
      | (with_reducible exact ih1 _ _ _ _ _)
      | (with_reducible exact ih2 _ _ _ _ _)
      | (with_reducible exact kedgelaw19_awake.mono _)
      | (with_reducible exact LeO.refl _)
      | (with_reducible exact LeO.none _)
      | (with_reducible refine LeO.ite ?_ ?_)
      | (with_reducible refine LeO.bind ?_ (fun _ => ?_))
      | exact ih0 _ _ _ _
      | exact ih1 _ _ _ _ _
      | exact ih2 _ _ _ _ _
      | exact kedgelaw19_awake.mono _
      | exact LeO.none _
      | refine LeO.ite ?_ ?_
      | refine LeO.bind ?_ (fun _ => ?_)
    · intro y0 y1 y2 y3 y4
      unfold kedgelaw19_SumsFill.j1
      repeat' first
      | (with_reducible exact ih0 _ _ _ _)
      | (with_reducible exact ih1 _ _ _ _ _)
      | (with_reducible exact ih2 _ _ _ _ _)
      | (with_reducible exact kedgelaw19_awake.mono _)
      | (with_reducible exact LeO.refl _)
      | (with_reducible exact LeO.none _)
      | (with_reducible refine LeO.ite ?_ ?_)
      | (with_reducible refine LeO.bind ?_ (fun _ => ?_))
      | exact ih0 _ _ _ _
      | exact ih1 _ _ _ _ _
      | exact ih2 _ _ _ _ _
      | exact kedgelaw19_awake.mono _
      | exact LeO.none _
      | refine LeO.ite ?_ ?_
      | refine LeO.bind ?_ (fun _ => ?_)
    · intro y0 y1 y2 y3 y4
      unfold kedgelaw19_SumsFill.l0
      repeat' first
      | (with_reducible exact ih0 _ _ _ _)
      | (with_reducible exact ih1 _ _ _ _ _)
      | (with_reducible exact ih2 _ _ _ _ _)
      | (with_reducible exact kedgelaw19_awake.mono _)
      | (with_reducible exact LeO.refl _)
      | (with_reducible exact LeO.none _)
      | (with_reducible refine LeO.ite ?_ ?_)
      | (with_reducible refine LeO.bind ?_ (fun _ => ?_))
      | exact ih0 _ _ _ _
      | exact ih1 _ _ _ _ _
      | exact ih2 _ _ _ _ _
      | exact kedgelaw19_awake.mono _
      | exact LeO.none _
      | refine LeO.ite ?_ ?_
      | refine LeO.bind ?_ (fun _ => ?_)
theorem kedgelaw19_SumsFill.mono : ∀ a0 a1 k, LeO (kedgelaw19_SumsFill.f k a0 a1) (kedgelaw19_SumsFill.f (k + 1) a0 a1) := by
  intro a0 a1 k
  obtain ⟨ih0, ih1, ih2⟩ := kedgelaw19_SumsFill.mono_l k
  unfold kedgelaw19_SumsFill.f
  repeat' first
      | (with_reducible exact ih0 _ _ _ _)
      | (with_reducible exact ih1 _ _ _ _ _)
      | (with_reducible exact ih2 _ _ _ _ _)
      | (with_reducible exact kedgelaw19_awake.mono _)
      | (with_reducible exact LeO.refl _)
      | (with_reducible exact LeO.none _)
      | (with_reducible refine LeO.ite ?_ ?_)
      | (with_reducible refine LeO.bind ?_ (fun _ => ?_))
      | exact ih0 _ _ _ _
      | exact ih1 _ _ _ _ _
      | exact ih2 _ _ _ _ _
      | exact kedgelaw19_awake.mono _
      | exact LeO.none _
      | refine LeO.ite ?_ ?_
      | refine LeO.bind ?_ (fun _ => ?_)
set_option maxHeartbeats 8000000 in
set_option maxRecDepth 100000 in
theorem kedgelaw19_SumsFill.calls (k : Nat) (A0 : Option Addr) (c0 : Nat) (l0 : List Int) (a1 : Int) (r : Bool) (w : World) (hr0 : Kd.C (Kd.int .u8) w A0 l0.length l0) (hc0 : l0.length ≤ c0) (h : kedgelaw19_SumsFill.f k l0 a1 = some r) :
    Calls Try.prog 5 #[.slice A0 l0.length c0, .int .i64 a1] w fun e w' => e = .returned (.bool r) ∧ Below w.heap.size w w' := by
  have HR0 := Aside0.mk hr0
  have HC0 := Aside0.mk hc0
  clear hr0 hc0
  have HB := Aside0.mk (Below.refl w.heap.size w)
  have H : ((kedgelaw19_awake.f k).bind fun t156 => (if (l0.length : Int) > 3000 then (kedgelaw19_SumsFill.j0 k l0 a1 t156 true) else (kedgelaw19_SumsFill.j0 k l0 a1 t156 (decide ((l0.length : Int) < 2))))) = some r := h
  clear h
  replace H := Option.bind_eq_some_iff.mp H
  obtain ⟨t156, A30, H⟩ := H
  replace H : (if (l0.length : Int) > 3000 then (kedgelaw19_SumsFill.j0 k l0 a1 t156 true) else (kedgelaw19_SumsFill.j0 k l0 a1 t156 (decide ((l0.length : Int) < 2)))) = some r := H
  have A3 := Aside0.mk A30
  clear A30
  have HC4 := Aside0.mk H
  clear H
  go_enter Try.func5, Try.ntmps5
  go_upto_region 2 with (first | (go_at_call 31; (with_reducible refine (kedgelaw19_awake.calls k  t156 _ A3.out).mono ?_); rintro e w5 ⟨rfl, hb⟩; have n0_ := Aside0.mk (below_step (by repeat (first | (with_reducible first | exact HB.out | apply below_alloc | apply pw_below_drewN | apply below_drew1) | exact HB.out)) hb); clear HB; have HB := n0_; clear n0_; (try clear hb); (try clear hb2); (try clear hk); (try clear hi)))
  repeat (go_quiet (first | (go_at_call 31; (with_reducible refine (kedgelaw19_awake.calls k  t156 _ A3.out).mono ?_); rintro e w5 ⟨rfl, hb⟩; have n0_ := Aside0.mk (below_step (by repeat (first | (with_reducible first | exact HB.out | apply below_alloc | apply pw_below_drewN | apply below_drew1) | exact HB.out)) hb); clear HB; have HB := n0_; clear n0_; (try clear hb); (try clear hb2); (try clear hk); (try clear hi))); go_upto_region 2 with (first | (go_at_call 31; (with_reducible refine (kedgelaw19_awake.calls k  t156 _ A3.out).mono ?_); rintro e w5 ⟨rfl, hb⟩; have n0_ := Aside0.mk (below_step (by repeat (first | (with_reducible first | exact HB.out | apply below_alloc | apply pw_below_drewN | apply below_drew1) | exact HB.out)) hb); clear HB; have HB := n0_; clear n0_; (try clear hb); (try clear hb2); (try clear hk); (try clear hi))))
  (try simp only [Act.put, List.setIfInBounds_toArray, List.set_cons_zero, List.set_cons_succ])
  go_cut [20] (fun v20 wc => ∃ (kq : Nat) (x20_3 : Bool), v20 = .bool x20_3 ∧ Aside0 (kedgelaw19_SumsFill.j0 kq l0 a1 t156 x20_3 = some r) ∧ Aside0 (kq ≤ k) ∧ Aside0 (Below w.heap.size w wc))
  case first =>
    have H := HC4.out
    clear HC4
    by_cases c6 : (l0.length : Int) > 3000
    · rw [if_pos c6] at H
      have c6b0 : decide (3000 < (l0.length : Int)) = true := decide_eq_true c6
      have c6b1 : decide (3000 < l0.length) = true := decide_eq_true (by omega)
      clear c6
      (first | rw [c6b0] | (simp only [i64_w, i32_w]; rw [c6b0]) | skip)
      have H' := Aside0.mk H
      clear H
      go_wp2
      repeat (go_quiet (fail); try go_wp2)
      go_meet
      case rel => exact ⟨_, (true), (by first | rfl | (simp; done) | (simp [*]; done)), H', ⟨by first | omega | exact Nat.le_refl _⟩, ⟨by repeat (first | (with_reducible first | exact HB.out | apply below_alloc | apply pw_below_drewN | apply below_drew1) | exact HB.out)⟩⟩
    · rw [if_neg c6] at H
      have c6b0 : decide (3000 < (l0.length : Int)) = false := decide_eq_false c6
      have c6b1 : decide (3000 < l0.length) = false := decide_eq_false (by omega)
      clear c6
      (first | rw [c6b0] | (simp only [i64_w, i32_w]; rw [c6b0]) | skip)
      have H' := Aside0.mk H
      clear H
      go_wp2
      repeat (go_quiet (fail); try go_wp2)
      go_meet
      case rel => exact ⟨_, (decide ((l0.length : Int) < 2)), (by first | rfl | (simp; done) | (simp [*]; done)), H', ⟨by first | omega | exact Nat.le_refl _⟩, ⟨by repeat (first | (with_reducible first | exact HB.out | apply below_alloc | apply pw_below_drewN | apply below_drew1) | exact HB.out)⟩⟩
  case rest =>
    clear HC4
    try clear p2
    try clear c5
    try clear c6
    try clear c6b0
    try clear c6b1
    obtain ⟨kq, x20_3, rfl, HA, HJ3, HB⟩ := hcut
    cases kq with
    | zero => exact absurd HA.out (by simp [kedgelaw19_SumsFill.j0])
    | succ kj3 =>
      have H := HA.out
      clear HA
      simp only [kedgelaw19_SumsFill.j0] at H
      by_cases c7 : x20_3 = true
      · subst c7
        have H1 : (some t156) = some r := by rw [if_pos rfl] at H; exact H
        clear H
        have H := H1
        clear H1
        obtain rfl := Option.some.inj H
        go_wp2
        repeat (go_quiet (fail); try go_wp2)
        go_ret
        exact ⟨by first | rfl | (simp [errW_none, errW_some] <;> rfl) | (simp [*, errW_none, errW_some] <;> rfl), by repeat (first | (with_reducible first | exact HB.out | apply below_alloc | apply pw_below_drewN | apply below_drew1) | exact HB.out)⟩
      · replace c7 := Bool.eq_false_iff.mpr c7
        subst c7
        have H1 : (if (wrap64 ((l0.length : Int) / 2)) = 0 then (none) else ((sums_Fill.f l0 (wrap64 ((Int.tmod (Go.bits .and .i64 a1 65535) (wrap64 ((l0.length : Int) / 2))) * 2))).bind fun bt157 => ((sums_Fill.f bt157.1 (wrap64 ((Int.tmod (Go.bits .and .i64 a1 65535) (wrap64 ((l0.length : Int) / 2))) * 2))).bind fun bt161 => (if bt157.2 = true then (if bt161.2 = true then (if (bt157.1.length : Int) = (l0.length : Int) then (if (strOfNums bt157.1).toList = (strOfNums bt161.1).toList then ((sums_Check.f bt157.1).bind fun t165 => (kedgelaw19_SumsFill.j1 kj3 l0 t156 (wrap64 ((Int.tmod (Go.bits .and .i64 a1 65535) (wrap64 ((l0.length : Int) / 2))) * 2)) bt157.1 (!t165))) else (kedgelaw19_SumsFill.j1 kj3 l0 t156 (wrap64 ((Int.tmod (Go.bits .and .i64 a1 65535) (wrap64 ((l0.length : Int) / 2))) * 2)) bt157.1 true)) else (kedgelaw19_SumsFill.j1 kj3 l0 t156 (wrap64 ((Int.tmod (Go.bits .and .i64 a1 65535) (wrap64 ((l0.length : Int) / 2))) * 2)) bt157.1 true)) else (kedgelaw19_SumsFill.j1 kj3 l0 t156 (wrap64 ((Int.tmod (Go.bits .and .i64 a1 65535) (wrap64 ((l0.length : Int) / 2))) * 2)) bt157.1 true)) else (kedgelaw19_SumsFill.j1 kj3 l0 t156 (wrap64 ((Int.tmod (Go.bits .and .i64 a1 65535) (wrap64 ((l0.length : Int) / 2))) * 2)) bt157.1 true))))) = some r := by rw [if_neg (show ¬ (false = true) by decide)] at H; exact H
        clear H
        have H := H1
        clear H1
        by_cases c8 : (wrap64 ((l0.length : Int) / 2)) = 0
        · rw [if_pos c8] at H
          exact absurd H (by simp)
        · rw [if_neg c8] at H
          have c8b0 : ((wrap64 ((l0.length : Int) / 2)) == 0) = false := beq_eq_false_iff_ne.mpr c8
          have c8b1 : ((wrap64 ((l0.length : Int) / 2)) != 0) = true := bne_iff_ne.mpr c8
          replace H := Option.bind_eq_some_iff.mp H
          obtain ⟨⟨t157, t158⟩, A90, H⟩ := H
          replace H : ((sums_Fill.f t157 (wrap64 ((Int.tmod (Go.bits .and .i64 a1 65535) (wrap64 ((l0.length : Int) / 2))) * 2))).bind fun bt161 => (if t158 = true then (if bt161.2 = true then (if (t157.length : Int) = (l0.length : Int) then (if (strOfNums t157).toList = (strOfNums bt161.1).toList then ((sums_Check.f t157).bind fun t165 => (kedgelaw19_SumsFill.j1 kj3 l0 t156 (wrap64 ((Int.tmod (Go.bits .and .i64 a1 65535) (wrap64 ((l0.length : Int) / 2))) * 2)) t157 (!t165))) else (kedgelaw19_SumsFill.j1 kj3 l0 t156 (wrap64 ((Int.tmod (Go.bits .and .i64 a1 65535) (wrap64 ((l0.length : Int) / 2))) * 2)) t157 true)) else (kedgelaw19_SumsFill.j1 kj3 l0 t156 (wrap64 ((Int.tmod (Go.bits .and .i64 a1 65535) (wrap64 ((l0.length : Int) / 2))) * 2)) t157 true)) else (kedgelaw19_SumsFill.j1 kj3 l0 t156 (wrap64 ((Int.tmod (Go.bits .and .i64 a1 65535) (wrap64 ((l0.length : Int) / 2))) * 2)) t157 true)) else (kedgelaw19_SumsFill.j1 kj3 l0 t156 (wrap64 ((Int.tmod (Go.bits .and .i64 a1 65535) (wrap64 ((l0.length : Int) / 2))) * 2)) t157 true))) = some r := H
          have A9 := Aside0.mk A90
          clear A90
          replace H := Option.bind_eq_some_iff.mp H
          obtain ⟨⟨t161, t162⟩, A100, H⟩ := H
          replace H : (if t158 = true then (if t162 = true then (if (t157.length : Int) = (l0.length : Int) then (if (strOfNums t157).toList = (strOfNums t161).toList then ((sums_Check.f t157).bind fun t165 => (kedgelaw19_SumsFill.j1 kj3 l0 t156 (wrap64 ((Int.tmod (Go.bits .and .i64 a1 65535) (wrap64 ((l0.length : Int) / 2))) * 2)) t157 (!t165))) else (kedgelaw19_SumsFill.j1 kj3 l0 t156 (wrap64 ((Int.tmod (Go.bits .and .i64 a1 65535) (wrap64 ((l0.length : Int) / 2))) * 2)) t157 true)) else (kedgelaw19_SumsFill.j1 kj3 l0 t156 (wrap64 ((Int.tmod (Go.bits .and .i64 a1 65535) (wrap64 ((l0.length : Int) / 2))) * 2)) t157 true)) else (kedgelaw19_SumsFill.j1 kj3 l0 t156 (wrap64 ((Int.tmod (Go.bits .and .i64 a1 65535) (wrap64 ((l0.length : Int) / 2))) * 2)) t157 true)) else (kedgelaw19_SumsFill.j1 kj3 l0 t156 (wrap64 ((Int.tmod (Go.bits .and .i64 a1 65535) (wrap64 ((l0.length : Int) / 2))) * 2)) t157 true)) = some r := H
          have A10 := Aside0.mk A100
          clear A100
          have HC11 := Aside0.mk H
          clear H
          go_upto_region 7 with (first | (go_at_call 36; (with_reducible refine (sums_Fill.calls _ _ l0 (wrap64 ((Int.tmod (Go.bits .and .i64 a1 65535) (wrap64 ((l0.length : Int) / 2))) * 2)) t157 t158 _ ?side1 ?side2 A9.out).mono ?_); (case side1 => repeat (first | exact (Kd.C_below HR0.out HB.out) | (with_reducible refine Kd.C_alloc ?_ _) | (with_reducible refine Kd.C_drewN ?_ _) | (with_reducible refine Kd.C_drew ?_))); (case side2 => exact HC0.out); rintro e w12 ⟨v159, rfl, ho0, hb⟩; have n0_ := Aside0.mk (Kd.R_lower ho0 (below_size (by repeat (first | (with_reducible first | exact HB.out | apply below_alloc | apply pw_below_drewN | apply below_drew1) | exact HB.out)))); have n1_ := Aside0.mk (below_step (by repeat (first | (with_reducible first | exact HB.out | apply below_alloc | apply pw_below_drewN | apply below_drew1) | exact HB.out)) hb); clear HB; have HO160 := n0_; have HB := n1_; clear n0_ n1_; (try clear hb); (try clear hb2); (try clear hk); (try clear hi); (try clear ho0); obtain ⟨Ao13, co13, eo13⟩ := Kd.R_slice HO160.out; subst eo13) | (go_at_call 36; (with_reducible refine (sums_Fill.calls _ _ t157 (wrap64 ((Int.tmod (Go.bits .and .i64 a1 65535) (wrap64 ((l0.length : Int) / 2))) * 2)) t161 t162 _ ?side1 ?side2 A10.out).mono ?_); (case side1 => repeat (first | exact (Kd.R_reads' HO160.out).2.2 | (with_reducible refine Kd.C_alloc ?_ _) | (with_reducible refine Kd.C_drewN ?_ _) | (with_reducible refine Kd.C_drew ?_))); (case side2 => exact (Kd.R_reads' HO160.out).2.1); rintro e w14 ⟨v163, rfl, ho0, hb⟩; have n0_ := Aside0.mk (Kd.R_elder' (by (with_reducible repeat (first | apply Kd.R_alloc | apply Kd.R_drewN | apply Kd.R_drew)); exact HO160.out) (Kd.R_base ho0) hb); have n1_ := Aside0.mk (Kd.R_lower (Kd.R_new' ho0 (Kd.R_lt (by (with_reducible repeat (first | apply Kd.R_alloc | apply Kd.R_drewN | apply Kd.R_drew)); exact HO160.out))) (below_size (by repeat (first | (with_reducible first | exact HB.out | apply below_alloc | apply pw_below_drewN | apply below_drew1) | exact HB.out)))); have n2_ := Aside0.mk (below_step (by repeat (first | (with_reducible first | exact HB.out | apply below_alloc | apply pw_below_drewN | apply below_drew1) | exact HB.out)) hb); clear HO160; clear HB; have HO160 := n0_; have HO164 := n1_; have HB := n2_; clear n0_ n1_ n2_; (try clear hb); (try clear hb2); (try clear hk); (try clear hi); (try clear ho0)))
          repeat (go_quiet (first | (go_at_call 36; (with_reducible refine (sums_Fill.calls _ _ l0 (wrap64 ((Int.tmod (Go.bits .and .i64 a1 65535) (wrap64 ((l0.length : Int) / 2))) * 2)) t157 t158 _ ?side1 ?side2 A9.out).mono ?_); (case side1 => repeat (first | exact (Kd.C_below HR0.out HB.out) | (with_reducible refine Kd.C_alloc ?_ _) | (with_reducible refine Kd.C_drewN ?_ _) | (with_reducible refine Kd.C_drew ?_))); (case side2 => exact HC0.out); rintro e w12 ⟨v159, rfl, ho0, hb⟩; have n0_ := Aside0.mk (Kd.R_lower ho0 (below_size (by repeat (first | (with_reducible first | exact HB.out | apply below_alloc | apply pw_below_drewN | apply below_drew1) | exact HB.out)))); have n1_ := Aside0.mk (below_step (by repeat (first | (with_reducible first | exact HB.out | apply below_alloc | apply pw_below_drewN | apply below_drew1) | exact HB.out)) hb); clear HB; have HO160 := n0_; have HB := n1_; clear n0_ n1_; (try clear hb); (try clear hb2); (try clear hk); (try clear hi); (try clear ho0); obtain ⟨Ao13, co13, eo13⟩ := Kd.R_slice HO160.out; subst eo13) | (go_at_call 36; (with_reducible refine (sums_Fill.calls _ _ t157 (wrap64 ((Int.tmod (Go.bits .and .i64 a1 65535) (wrap64 ((l0.length : Int) / 2))) * 2)) t161 t162 _ ?side1 ?side2 A10.out).mono ?_); (case side1 => repeat (first | exact (Kd.R_reads' HO160.out).2.2 | (with_reducible refine Kd.C_alloc ?_ _) | (with_reducible refine Kd.C_drewN ?_ _) | (with_reducible refine Kd.C_drew ?_))); (case side2 => exact (Kd.R_reads' HO160.out).2.1); rintro e w14 ⟨v163, rfl, ho0, hb⟩; have n0_ := Aside0.mk (Kd.R_elder' (by (with_reducible repeat (first | apply Kd.R_alloc | apply Kd.R_drewN | apply Kd.R_drew)); exact HO160.out) (Kd.R_base ho0) hb); have n1_ := Aside0.mk (Kd.R_lower (Kd.R_new' ho0 (Kd.R_lt (by (with_reducible repeat (first | apply Kd.R_alloc | apply Kd.R_drewN | apply Kd.R_drew)); exact HO160.out))) (below_size (by repeat (first | (with_reducible first | exact HB.out | apply below_alloc | apply pw_below_drewN | apply below_drew1) | exact HB.out)))); have n2_ := Aside0.mk (below_step (by repeat (first | (with_reducible first | exact HB.out | apply below_alloc | apply pw_below_drewN | apply below_drew1) | exact HB.out)) hb); clear HO160; clear HB; have HO160 := n0_; have HO164 := n1_; have HB := n2_; clear n0_ n1_ n2_; (try clear hb); (try clear hb2); (try clear hk); (try clear hi); (try clear ho0))); go_upto_region 7 with (first | (go_at_call 36; (with_reducible refine (sums_Fill.calls _ _ l0 (wrap64 ((Int.tmod (Go.bits .and .i64 a1 65535) (wrap64 ((l0.length : Int) / 2))) * 2)) t157 t158 _ ?side1 ?side2 A9.out).mono ?_); (case side1 => repeat (first | exact (Kd.C_below HR0.out HB.out) | (with_reducible refine Kd.C_alloc ?_ _) | (with_reducible refine Kd.C_drewN ?_ _) | (with_reducible refine Kd.C_drew ?_))); (case side2 => exact HC0.out); rintro e w12 ⟨v159, rfl, ho0, hb⟩; have n0_ := Aside0.mk (Kd.R_lower ho0 (below_size (by repeat (first | (with_reducible first | exact HB.out | apply below_alloc | apply pw_below_drewN | apply below_drew1) | exact HB.out)))); have n1_ := Aside0.mk (below_step (by repeat (first | (with_reducible first | exact HB.out | apply below_alloc | apply pw_below_drewN | apply below_drew1) | exact HB.out)) hb); clear HB; have HO160 := n0_; have HB := n1_; clear n0_ n1_; (try clear hb); (try clear hb2); (try clear hk); (try clear hi); (try clear ho0); obtain ⟨Ao13, co13, eo13⟩ := Kd.R_slice HO160.out; subst eo13) | (go_at_call 36; (with_reducible refine (sums_Fill.calls _ _ t157 (wrap64 ((Int.tmod (Go.bits .and .i64 a1 65535) (wrap64 ((l0.length : Int) / 2))) * 2)) t161 t162 _ ?side1 ?side2 A10.out).mono ?_); (case side1 => repeat (first | exact (Kd.R_reads' HO160.out).2.2 | (with_reducible refine Kd.C_alloc ?_ _) | (with_reducible refine Kd.C_drewN ?_ _) | (with_reducible refine Kd.C_drew ?_))); (case side2 => exact (Kd.R_reads' HO160.out).2.1); rintro e w14 ⟨v163, rfl, ho0, hb⟩; have n0_ := Aside0.mk (Kd.R_elder' (by (with_reducible repeat (first | apply Kd.R_alloc | apply Kd.R_drewN | apply Kd.R_drew)); exact HO160.out) (Kd.R_base ho0) hb); have n1_ := Aside0.mk (Kd.R_lower (Kd.R_new' ho0 (Kd.R_lt (by (with_reducible repeat (first | apply Kd.R_alloc | apply Kd.R_drewN | apply Kd.R_drew)); exact HO160.out))) (below_size (by repeat (first | (with_reducible first | exact HB.out | apply below_alloc | apply pw_below_drewN | apply below_drew1) | exact HB.out)))); have n2_ := Aside0.mk (below_step (by repeat (first | (with_reducible first | exact HB.out | apply below_alloc | apply pw_below_drewN | apply below_drew1) | exact HB.out)) hb); clear HO160; clear HB; have HO160 := n0_; have HO164 := n1_; have HB := n2_; clear n0_ n1_ n2_; (try clear hb); (try clear hb2); (try clear hk); (try clear hi); (try clear ho0))))
          (try simp only [Act.put, List.setIfInBounds_toArray, List.set_cons_zero, List.set_cons_succ])
          go_cut [65] (fun v65 wc => ∃ (kq : Nat) (x65_10 : Bool), v65 = .bool x65_10 ∧ Aside0 (kedgelaw19_SumsFill.j1 kq l0 t156 (wrap64 ((Int.tmod (Go.bits .and .i64 a1 65535) (wrap64 ((l0.length : Int) / 2))) * 2)) t157 x65_10 = some r) ∧ Aside0 (kq ≤ kj3) ∧ Aside0 (Kd.R (Kd.int .u8) 5 wc w.heap.size (fun _ => True) (.slice Ao13 t157.length co13) t157) ∧ Aside0 (Below w.heap.size w wc))
          case first =>
            have H := HC11.out
            clear HC11
            by_cases c15 : t158 = true
            · subst c15
              have H1 : (if t162 = true then (if (t157.length : Int) = (l0.length : Int) then (if (strOfNums t157).toList = (strOfNums t161).toList then ((sums_Check.f t157).bind fun t165 => (kedgelaw19_SumsFill.j1 kj3 l0 t156 (wrap64 ((Int.tmod (Go.bits .and .i64 a1 65535) (wrap64 ((l0.length : Int) / 2))) * 2)) t157 (!t165))) else (kedgelaw19_SumsFill.j1 kj3 l0 t156 (wrap64 ((Int.tmod (Go.bits .and .i64 a1 65535) (wrap64 ((l0.length : Int) / 2))) * 2)) t157 true)) else (kedgelaw19_SumsFill.j1 kj3 l0 t156 (wrap64 ((Int.tmod (Go.bits .and .i64 a1 65535) (wrap64 ((l0.length : Int) / 2))) * 2)) t157 true)) else (kedgelaw19_SumsFill.j1 kj3 l0 t156 (wrap64 ((Int.tmod (Go.bits .and .i64 a1 65535) (wrap64 ((l0.length : Int) / 2))) * 2)) t157 true)) = some r := by rw [if_pos rfl] at H; exact H
              clear H
              have H := H1
              clear H1
              by_cases c16 : t162 = true
              · subst c16
                have H1 : (if (t157.length : Int) = (l0.length : Int) then (if (strOfNums t157).toList = (strOfNums t161).toList then ((sums_Check.f t157).bind fun t165 => (kedgelaw19_SumsFill.j1 kj3 l0 t156 (wrap64 ((Int.tmod (Go.bits .and .i64 a1 65535) (wrap64 ((l0.length : Int) / 2))) * 2)) t157 (!t165))) else (kedgelaw19_SumsFill.j1 kj3 l0 t156 (wrap64 ((Int.tmod (Go.bits .and .i64 a1 65535) (wrap64 ((l0.length : Int) / 2))) * 2)) t157 true)) else (kedgelaw19_SumsFill.j1 kj3 l0 t156 (wrap64 ((Int.tmod (Go.bits .and .i64 a1 65535) (wrap64 ((l0.length : Int) / 2))) * 2)) t157 true)) = some r := by rw [if_pos rfl] at H; exact H
                clear H
                have H := H1
                clear H1
                by_cases c17 : (t157.length : Int) = (l0.length : Int)
                · rw [if_pos c17] at H
                  have c17b0 : ((t157.length : Int) == (l0.length : Int)) = true := beq_iff_eq.mpr c17
                  have c17b1 : ((t157.length : Int) != (l0.length : Int)) = false := bne_eq_false_iff_eq.mpr c17
                  have c17b2 : (t157.length == l0.length) = true := by first | simpa using c17 | (simp at c17 ⊢; omega)
                  clear c17
                  (first | rw [c17b0] | (simp only [i64_w, i32_w]; rw [c17b0]) | skip)
                  by_cases c18 : (strOfNums t157).toList = (strOfNums t161).toList
                  · rw [if_pos c18] at H
                    have c18b0 : ((strOfNums t157).toList == (strOfNums t161).toList) = true := beq_iff_eq.mpr c18
                    have c18b1 : ((strOfNums t157).toList != (strOfNums t161).toList) = false := bne_eq_false_iff_eq.mpr c18
                    clear c18
                    replace H := Option.bind_eq_some_iff.mp H
                    obtain ⟨t165, A190, H⟩ := H
                    replace H : (kedgelaw19_SumsFill.j1 kj3 l0 t156 (wrap64 ((Int.tmod (Go.bits .and .i64 a1 65535) (wrap64 ((l0.length : Int) / 2))) * 2)) t157 (!t165)) = some r := H
                    have A19 := Aside0.mk A190
                    clear A190
                    have H' := Aside0.mk H
                    clear H
                    have hcv20 := own_string (P := Try.prog) Try.underlying22 Try.underlying5 Try.underlying9 (Kd.own_of_R HO160.out)
                    have hcv21 := fun (m_ : Nat) => own_string (P := Try.prog) Try.underlying22 Try.underlying5 Try.underlying9 (pw_own_drewN (Kd.own_of_R HO160.out) m_)
                    have hcv22 := own_string (P := Try.prog) Try.underlying22 Try.underlying5 Try.underlying9 (Kd.own_of_R HO164.out)
                    have hcv23 := fun (m_ : Nat) => own_string (P := Try.prog) Try.underlying22 Try.underlying5 Try.underlying9 (pw_own_drewN (Kd.own_of_R HO164.out) m_)
                    go_wp2_with (first | (go_at_call 34; (with_reducible refine (sums_Check.calls _ _ t157 t165 _ ?side1 ?side2 A19.out).mono ?_); (case side1 => repeat (first | exact (Kd.R_reads' HO160.out).2.2 | (with_reducible refine Kd.C_alloc ?_ _) | (with_reducible refine Kd.C_drewN ?_ _) | (with_reducible refine Kd.C_drew ?_))); (case side2 => exact (Kd.R_reads' HO160.out).2.1); rintro e w24 ⟨rfl, hb⟩; have n0_ := Aside0.mk (Kd.R_below (by (with_reducible repeat (first | apply Kd.R_alloc | apply Kd.R_drewN | apply Kd.R_drew)); exact HO160.out) hb); have n1_ := Aside0.mk (Kd.R_below (by (with_reducible repeat (first | apply Kd.R_alloc | apply Kd.R_drewN | apply Kd.R_drew)); exact HO164.out) hb); have n2_ := Aside0.mk (below_step (by repeat (first | (with_reducible first | exact HB.out | apply below_alloc | apply pw_below_drewN | apply below_drew1) | exact HB.out)) hb); clear HO160; clear HO164; clear HB; have HO160 := n0_; have HO164 := n1_; have HB := n2_; clear n0_ n1_ n2_; (try clear hb); (try clear hb2); (try clear hk); (try clear hi)))
                    repeat (go_quiet (first | (go_at_call 34; (with_reducible refine (sums_Check.calls _ _ t157 t165 _ ?side1 ?side2 A19.out).mono ?_); (case side1 => repeat (first | exact (Kd.R_reads' HO160.out).2.2 | (with_reducible refine Kd.C_alloc ?_ _) | (with_reducible refine Kd.C_drewN ?_ _) | (with_reducible refine Kd.C_drew ?_))); (case side2 => exact (Kd.R_reads' HO160.out).2.1); rintro e w24 ⟨rfl, hb⟩; have n0_ := Aside0.mk (Kd.R_below (by (with_reducible repeat (first | apply Kd.R_alloc | apply Kd.R_drewN | apply Kd.R_drew)); exact HO160.out) hb); have n1_ := Aside0.mk (Kd.R_below (by (with_reducible repeat (first | apply Kd.R_alloc | apply Kd.R_drewN | apply Kd.R_drew)); exact HO164.out) hb); have n2_ := Aside0.mk (below_step (by repeat (first | (with_reducible first | exact HB.out | apply below_alloc | apply pw_below_drewN | apply below_drew1) | exact HB.out)) hb); clear HO160; clear HO164; clear HB; have HO160 := n0_; have HO164 := n1_; have HB := n2_; clear n0_ n1_ n2_; (try clear hb); (try clear hb2); (try clear hk); (try clear hi))); try go_wp2_with (first | (go_at_call 34; (with_reducible refine (sums_Check.calls _ _ t157 t165 _ ?side1 ?side2 A19.out).mono ?_); (case side1 => repeat (first | exact (Kd.R_reads' HO160.out).2.2 | (with_reducible refine Kd.C_alloc ?_ _) | (with_reducible refine Kd.C_drewN ?_ _) | (with_reducible refine Kd.C_drew ?_))); (case side2 => exact (Kd.R_reads' HO160.out).2.1); rintro e w24 ⟨rfl, hb⟩; have n0_ := Aside0.mk (Kd.R_below (by (with_reducible repeat (first | apply Kd.R_alloc | apply Kd.R_drewN | apply Kd.R_drew)); exact HO160.out) hb); have n1_ := Aside0.mk (Kd.R_below (by (with_reducible repeat (first | apply Kd.R_alloc | apply Kd.R_drewN | apply Kd.R_drew)); exact HO164.out) hb); have n2_ := Aside0.mk (below_step (by repeat (first | (with_reducible first | exact HB.out | apply below_alloc | apply pw_below_drewN | apply below_drew1) | exact HB.out)) hb); clear HO160; clear HO164; clear HB; have HO160 := n0_; have HO164 := n1_; have HB := n2_; clear n0_ n1_ n2_; (try clear hb); (try clear hb2); (try clear hk); (try clear hi))))
                    go_meet
                    case rel => exact ⟨_, (!t165), (by first | rfl | (simp; done) | (simp [*]; done)), H', ⟨by have := HJ3.out; first | omega | exact Nat.le_refl _⟩, ⟨by (with_reducible repeat (first | apply Kd.R_alloc | apply Kd.R_drewN | apply Kd.R_drew)); exact Kd.R_mono HO160.out (fun _ hk => trivial)⟩, ⟨by repeat (first | (with_reducible first | exact HB.out | apply below_alloc | apply pw_below_drewN | apply below_drew1) | exact HB.out)⟩⟩
                  · rw [if_neg c18] at H
                    have c18b0 : ((strOfNums t157).toList == (strOfNums t161).toList) = false := beq_eq_false_iff_ne.mpr c18
                    have c18b1 : ((strOfNums t157).toList != (strOfNums t161).toList) = true := bne_iff_ne.mpr c18
                    have H' := Aside0.mk H
                    clear H
                    have hcv25 := own_string (P := Try.prog) Try.underlying22 Try.underlying5 Try.underlying9 (Kd.own_of_R HO160.out)
                    have hcv26 := fun (m_ : Nat) => own_string (P := Try.prog) Try.underlying22 Try.underlying5 Try.underlying9 (pw_own_drewN (Kd.own_of_R HO160.out) m_)
                    have hcv27 := own_string (P := Try.prog) Try.underlying22 Try.underlying5 Try.underlying9 (Kd.own_of_R HO164.out)
                    have hcv28 := fun (m_ : Nat) => own_string (P := Try.prog) Try.underlying22 Try.underlying5 Try.underlying9 (pw_own_drewN (Kd.own_of_R HO164.out) m_)
                    go_wp2
                    repeat (go_quiet (fail); try go_wp2)
                    go_meet
                    case rel => exact ⟨_, (true), (by first | rfl | (simp; done) | (simp [*]; done)), H', ⟨by have := HJ3.out; first | omega | exact Nat.le_refl _⟩, ⟨by (with_reducible repeat (first | apply Kd.R_alloc | apply Kd.R_drewN | apply Kd.R_drew)); exact Kd.R_mono HO160.out (fun _ hk => trivial)⟩, ⟨by repeat (first | (with_reducible first | exact HB.out | apply below_alloc | apply pw_below_drewN | apply below_drew1) | exact HB.out)⟩⟩
                · rw [if_neg c17] at H
                  have c17b0 : ((t157.length : Int) == (l0.length : Int)) = false := beq_eq_false_iff_ne.mpr c17
                  have c17b1 : ((t157.length : Int) != (l0.length : Int)) = true := bne_iff_ne.mpr c17
                  have c17b2 : (t157.length == l0.length) = false := by first | simpa using c17 | (simp at c17 ⊢; omega)
                  (first | rw [c17b0] | (simp only [i64_w, i32_w]; rw [c17b0]) | skip)
                  have H' := Aside0.mk H
                  clear H
                  go_wp2
                  repeat (go_quiet (fail); try go_wp2)
                  go_meet
                  case rel => exact ⟨_, (true), (by first | rfl | (simp; done) | (simp [*]; done)), H', ⟨by have := HJ3.out; first | omega | exact Nat.le_refl _⟩, ⟨by (with_reducible repeat (first | apply Kd.R_alloc | apply Kd.R_drewN | apply Kd.R_drew)); exact Kd.R_mono HO160.out (fun _ hk => trivial)⟩, ⟨by repeat (first | (with_reducible first | exact HB.out | apply below_alloc | apply pw_below_drewN | apply below_drew1) | exact HB.out)⟩⟩
              · replace c16 := Bool.eq_false_iff.mpr c16
                subst c16
                have H1 : (kedgelaw19_SumsFill.j1 kj3 l0 t156 (wrap64 ((Int.tmod (Go.bits .and .i64 a1 65535) (wrap64 ((l0.length : Int) / 2))) * 2)) t157 true) = some r := by rw [if_neg (show ¬ (false = true) by decide)] at H; exact H
                clear H
                have H := H1
                clear H1
                have H' := Aside0.mk H
                clear H
                go_wp2
                repeat (go_quiet (fail); try go_wp2)
                go_meet
                case rel => exact ⟨_, (true), (by first | rfl | (simp; done) | (simp [*]; done)), H', ⟨by have := HJ3.out; first | omega | exact Nat.le_refl _⟩, ⟨by (with_reducible repeat (first | apply Kd.R_alloc | apply Kd.R_drewN | apply Kd.R_drew)); exact Kd.R_mono HO160.out (fun _ hk => trivial)⟩, ⟨by repeat (first | (with_reducible first | exact HB.out | apply below_alloc | apply pw_below_drewN | apply below_drew1) | exact HB.out)⟩⟩
            · replace c15 := Bool.eq_false_iff.mpr c15
              subst c15
              have H1 : (kedgelaw19_SumsFill.j1 kj3 l0 t156 (wrap64 ((Int.tmod (Go.bits .and .i64 a1 65535) (wrap64 ((l0.length : Int) / 2))) * 2)) t157 true) = some r := by rw [if_neg (show ¬ (false = true) by decide)] at H; exact H
              clear H
              have H := H1
              clear H1
              have H' := Aside0.mk H
              clear H
              go_wp2
              repeat (go_quiet (fail); try go_wp2)
              go_meet
              case rel => exact ⟨_, (true), (by first | rfl | (simp; done) | (simp [*]; done)), H', ⟨by have := HJ3.out; first | omega | exact Nat.le_refl _⟩, ⟨by (with_reducible repeat (first | apply Kd.R_alloc | apply Kd.R_drewN | apply Kd.R_drew)); exact Kd.R_mono HO160.out (fun _ hk => trivial)⟩, ⟨by repeat (first | (with_reducible first | exact HB.out | apply below_alloc | apply pw_below_drewN | apply below_drew1) | exact HB.out)⟩⟩
          case rest =>
            clear HC11
            try clear c1
            try clear p2
            try clear hcv2
            try clear c5
            try clear c6
            try clear c6b0
            try clear c6b1
            try clear p6
            try clear c7
            try clear c8
            try clear c8b0
            try clear c8b1
            try clear c15
            try clear c16
            try clear c17
            try clear c17b0
            try clear c17b1
            try clear c17b2
            try clear c18
            try clear c18b0
            try clear c18b1
            try clear hcv20
            try clear hcv21
            try clear hcv22
            try clear hcv23
            try clear hcv25
            try clear hcv26
            try clear hcv27
            try clear hcv28
            try clear p2
            obtain ⟨kq, x65_10, rfl, HA, HJ10, HO_7, HB⟩ := hcut
            cases kq with
            | zero => exact absurd HA.out (by simp [kedgelaw19_SumsFill.j1])
            | succ kj10 =>
              have H := HA.out
              clear HA
              simp only [kedgelaw19_SumsFill.j1] at H
              by_cases c29 : x65_10 = true
              · subst c29
                have H1 : (some false) = some r := by rw [if_pos rfl] at H; exact H
                clear H
                have H := H1
                clear H1
                obtain rfl := Option.some.inj H
                go_wp2
                repeat (go_quiet (fail); try go_wp2)
                go_ret
                exact ⟨by first | rfl | (simp [errW_none, errW_some] <;> rfl) | (simp [*, errW_none, errW_some] <;> rfl), by repeat (first | (with_reducible first | exact HB.out | apply below_alloc | apply pw_below_drewN | apply below_drew1) | exact HB.out)⟩
              · replace c29 := Bool.eq_false_iff.mpr c29
                subst c29
                have H1 : (kedgelaw19_SumsFill.l0 kj10 l0 t156 (wrap64 ((Int.tmod (Go.bits .and .i64 a1 65535) (wrap64 ((l0.length : Int) / 2))) * 2)) t157 0) = some r := by rw [if_neg (show ¬ (false = true) by decide)] at H; exact H
                clear H
                have H := H1
                clear H1
                have H' := Aside0.mk H
                clear H
                go_wp2
                repeat (go_quiet (fail); try go_wp2)
                go_loopg [11] kj10 (fun kq v11 w' => ∃ (x11_3 : Int), v11 = .int .i64 x11_3 ∧ Aside0 (kedgelaw19_SumsFill.l0 kq l0 t156 (wrap64 ((Int.tmod (Go.bits .and .i64 a1 65535) (wrap64 ((l0.length : Int) / 2))) * 2)) t157 x11_3 = some r) ∧ Aside0 (kq ≤ kj10) ∧ Aside0 (Kd.R (Kd.int .u8) 5 w' w.heap.size (fun _ => True) (.slice Ao13 t157.length co13) t157) ∧ Aside0 (Below w.heap.size w w'))
                case atStart => exact ⟨(0), (by first | rfl | (simp; done) | (simp [*]; done)), H', ⟨Nat.le_refl _⟩, ⟨by (with_reducible repeat (first | apply Kd.R_alloc | apply Kd.R_drewN | apply Kd.R_drew)); exact HO_7.out⟩, ⟨by repeat (first | (with_reducible first | exact HB.out | apply below_alloc | apply pw_below_drewN | apply below_drew1) | exact HB.out)⟩⟩
                case round =>
                  clear H'
                  try clear c1
                  try clear c2
                  try clear p2
                  try clear hcv2
                  try clear c5
                  try clear c6
                  try clear c6b0
                  try clear c6b1
                  try clear p6
                  try clear c7
                  try clear c8
                  try clear c8b0
                  try clear c8b1
                  try clear c15
                  try clear c16
                  try clear c17
                  try clear c17b0
                  try clear c17b1
                  try clear c17b2
                  try clear c18
                  try clear c18b0
                  try clear c18b1
                  try clear hcv20
                  try clear hcv21
                  try clear hcv22
                  try clear hcv23
                  try clear hcv25
                  try clear hcv26
                  try clear hcv27
                  try clear hcv28
                  try clear c29
                  try clear p2
                  try clear p6
                  obtain ⟨x11_3, rfl, HA, HK3, HO_7, HB⟩ := hrel
                  cases gk with
                  | zero => exact absurd HA.out (by simp [kedgelaw19_SumsFill.l0])
                  | succ k3 =>
                    have H := HA.out
                    clear HA
                    simp only [kedgelaw19_SumsFill.l0] at H
                    by_cases c30 : x11_3 < (l0.length : Int)
                    · rw [if_pos c30] at H
                      have c30b0 : decide (x11_3 < (l0.length : Int)) = true := decide_eq_true c30
                      clear c30
                      by_cases c31 : x11_3 = (wrap64 ((Int.tmod (Go.bits .and .i64 a1 65535) (wrap64 ((l0.length : Int) / 2))) * 2))
                      · rw [if_pos c31] at H
                        have c31b0 : (x11_3 == (wrap64 ((Int.tmod (Go.bits .and .i64 a1 65535) (wrap64 ((l0.length : Int) / 2))) * 2))) = true := beq_iff_eq.mpr c31
                        have c31b1 : (x11_3 != (wrap64 ((Int.tmod (Go.bits .and .i64 a1 65535) (wrap64 ((l0.length : Int) / 2))) * 2))) = false := bne_eq_false_iff_eq.mpr c31
                        clear c31
                        have H' := Aside0.mk H
                        clear H
                        go_wp2
                        repeat (go_quiet (fail); try go_wp2)
                        go_roundg k3
                        case measure => have := HJ3.out; have := HJ10.out; have := HK3.out; omega
                        case rel => exact ⟨(wrap64 (x11_3 + 1)), (by first | rfl | (simp; done) | (simp [*]; done)), H', ⟨by have := HJ3.out; have := HJ10.out; have := HK3.out; omega⟩, ⟨by (with_reducible repeat (first | apply Kd.R_alloc | apply Kd.R_drewN | apply Kd.R_drew)); exact HO_7.out⟩, ⟨by repeat (first | (with_reducible first | exact HB.out | apply below_alloc | apply pw_below_drewN | apply below_drew1) | exact HB.out)⟩⟩
                      · rw [if_neg c31] at H
                        have c31b0 : (x11_3 == (wrap64 ((Int.tmod (Go.bits .and .i64 a1 65535) (wrap64 ((l0.length : Int) / 2))) * 2))) = false := beq_eq_false_iff_ne.mpr c31
                        have c31b1 : (x11_3 != (wrap64 ((Int.tmod (Go.bits .and .i64 a1 65535) (wrap64 ((l0.length : Int) / 2))) * 2))) = true := bne_iff_ne.mpr c31
                        by_cases c32 : x11_3 = (wrap64 ((wrap64 ((Int.tmod (Go.bits .and .i64 a1 65535) (wrap64 ((l0.length : Int) / 2))) * 2)) + 1))
                        · rw [if_pos c32] at H
                          have c32b0 : (x11_3 == (wrap64 ((wrap64 ((Int.tmod (Go.bits .and .i64 a1 65535) (wrap64 ((l0.length : Int) / 2))) * 2)) + 1))) = true := beq_iff_eq.mpr c32
                          have c32b1 : (x11_3 != (wrap64 ((wrap64 ((Int.tmod (Go.bits .and .i64 a1 65535) (wrap64 ((l0.length : Int) / 2))) * 2)) + 1))) = false := bne_eq_false_iff_eq.mpr c32
                          clear c32
                          have H' := Aside0.mk H
                          clear H
                          go_wp2
                          repeat (go_quiet (fail); try go_wp2)
                          go_roundg k3
                          case measure => have := HJ3.out; have := HJ10.out; have := HK3.out; omega
                          case rel => exact ⟨(wrap64 (x11_3 + 1)), (by first | rfl | (simp; done) | (simp [*]; done)), H', ⟨by have := HJ3.out; have := HJ10.out; have := HK3.out; omega⟩, ⟨by (with_reducible repeat (first | apply Kd.R_alloc | apply Kd.R_drewN | apply Kd.R_drew)); exact HO_7.out⟩, ⟨by repeat (first | (with_reducible first | exact HB.out | apply below_alloc | apply pw_below_drewN | apply below_drew1) | exact HB.out)⟩⟩
                        · rw [if_neg c32] at H
                          have c32b0 : (x11_3 == (wrap64 ((wrap64 ((Int.tmod (Go.bits .and .i64 a1 65535) (wrap64 ((l0.length : Int) / 2))) * 2)) + 1))) = false := beq_eq_false_iff_ne.mpr c32
                          have c32b1 : (x11_3 != (wrap64 ((wrap64 ((Int.tmod (Go.bits .and .i64 a1 65535) (wrap64 ((l0.length : Int) / 2))) * 2)) + 1))) = true := bne_iff_ne.mpr c32
                          by_cases c33 : 0 ≤ x11_3
                          · rw [if_pos c33] at H
                            have c33b0 : decide (0 ≤ x11_3) = true := decide_eq_true c33
                            clear c33
                            by_cases c34 : x11_3 < (t157.length : Int)
                            · rw [if_pos c34] at H
                              have c34b0 : decide (x11_3 < (t157.length : Int)) = true := decide_eq_true c34
                              clear c34
                              by_cases c35 : (rd t157 x11_3) = (rd l0 x11_3)
                              · rw [if_pos c35] at H
                                have c35b0 : ((rd t157 x11_3) == (rd l0 x11_3)) = true := beq_iff_eq.mpr c35
                                have c35b1 : ((rd t157 x11_3) != (rd l0 x11_3)) = false := bne_eq_false_iff_eq.mpr c35
                                clear c35
                                have H' := Aside0.mk H
                                clear H
                                have p166 : 0 ≤ (x11_3 : Int) := of_decide_eq_true (by first | (with_reducible assumption) | assumption)
                                have q166 : x11_3 < (t157.length : Int) := of_decide_eq_true (by first | (with_reducible assumption) | assumption)
                                obtain ⟨ad166, e166, hx166_0⟩ := Kd.at_int (Kd.R_reads' HO_7.out).2.2 x11_3 p166 q166
                                cases e166
                                replace p166 := eq_true p166
                                replace q166 := eq_true q166
                                have p167 : 0 ≤ (x11_3 : Int) := of_decide_eq_true (by first | (with_reducible assumption) | assumption)
                                have q167 : x11_3 < (l0.length : Int) := of_decide_eq_true (by first | (with_reducible assumption) | assumption)
                                obtain ⟨ad167, e167, hx167_0⟩ := Kd.at_int HR0.out x11_3 p167 q167
                                cases e167
                                replace hx167_0 := (HB.out.cell (World.block_lt_of_cell? w _ hx167_0)).trans hx167_0
                                replace p167 := eq_true p167
                                replace q167 := eq_true q167
                                go_wp2
                                repeat (go_quiet (fail); try go_wp2)
                                go_roundg k3
                                case measure => have := HJ3.out; have := HJ10.out; have := HK3.out; omega
                                case rel => exact ⟨(wrap64 (x11_3 + 1)), (by first | rfl | (simp; done) | (simp [*]; done)), H', ⟨by have := HJ3.out; have := HJ10.out; have := HK3.out; omega⟩, ⟨by (with_reducible repeat (first | apply Kd.R_alloc | apply Kd.R_drewN | apply Kd.R_drew)); exact HO_7.out⟩, ⟨by repeat (first | (with_reducible first | exact HB.out | apply below_alloc | apply pw_below_drewN | apply below_drew1) | exact HB.out)⟩⟩
                              · rw [if_neg c35] at H
                                have c35b0 : ((rd t157 x11_3) == (rd l0 x11_3)) = false := beq_eq_false_iff_ne.mpr c35
                                have c35b1 : ((rd t157 x11_3) != (rd l0 x11_3)) = true := bne_iff_ne.mpr c35
                                obtain rfl := Option.some.inj H
                                have p166 : 0 ≤ (x11_3 : Int) := of_decide_eq_true (by first | (with_reducible assumption) | assumption)
                                have q166 : x11_3 < (t157.length : Int) := of_decide_eq_true (by first | (with_reducible assumption) | assumption)
                                obtain ⟨ad166, e166, hx166_0⟩ := Kd.at_int (Kd.R_reads' HO_7.out).2.2 x11_3 p166 q166
                                cases e166
                                replace p166 := eq_true p166
                                replace q166 := eq_true q166
                                have p167 : 0 ≤ (x11_3 : Int) := of_decide_eq_true (by first | (with_reducible assumption) | assumption)
                                have q167 : x11_3 < (l0.length : Int) := of_decide_eq_true (by first | (with_reducible assumption) | assumption)
                                obtain ⟨ad167, e167, hx167_0⟩ := Kd.at_int HR0.out x11_3 p167 q167
                                cases e167
                                replace hx167_0 := (HB.out.cell (World.block_lt_of_cell? w _ hx167_0)).trans hx167_0
                                replace p167 := eq_true p167
                                replace q167 := eq_true q167
                                go_wp2
                                repeat (go_quiet (fail); try go_wp2)
                                go_ret
                                exact ⟨by first | rfl | (simp [errW_none, errW_some] <;> rfl) | (simp [*, errW_none, errW_some] <;> rfl), by repeat (first | (with_reducible first | exact HB.out | apply below_alloc | apply pw_below_drewN | apply below_drew1) | exact HB.out)⟩
                            · rw [if_neg c34] at H
                              exact absurd H (by simp)
                          · rw [if_neg c33] at H
                            exact absurd H (by simp)
                    · rw [if_neg c30] at H
                      have c30b0 : decide (x11_3 < (l0.length : Int)) = false := decide_eq_false c30
                      clear c30
                      obtain rfl := Option.some.inj H
                      go_wp2
                      repeat (go_quiet (fail); try go_wp2)
                      go_ret
                      exact ⟨by first | rfl | (simp [errW_none, errW_some] <;> rfl) | (simp [*, errW_none, errW_some] <;> rfl), by repeat (first | (with_reducible first | exact HB.out | apply below_alloc | apply pw_below_drewN | apply below_drew1) | exact HB.out)⟩

/-- THE ONE PURE STATEMENT of kedgelaw19_SumsFill: yours. -/
def kedgelaw19_SumsFill.Pure : Prop := ∀ (l0 : List Int) (a1 : Int), l0.length ≤ maxLen → l0.length * 1 ≤ 140737488351232 → (∀ x ∈ l0, (Lit.int .u8 x).wf = true) → (Lit.int .i64 a1).wf = true → ∃ k, kedgelaw19_SumsFill.f k l0 a1 = some true
theorem kedgelaw19_SumsFill.walk (P : kedgelaw19_SumsFill.Pure) (a0 : Option Addr) (len0 cap0 : Nat) (z0 : List Int) (a1 : Int) (w : World) (w0 : (a0 = none ∧ len0 = 0 ∧ cap0 = 0 ∧ z0 = []) ∨ ∃ x, a0 = some x ∧ len0 ≤ cap0 ∧ cap0 ≤ maxLen ∧ z0.length = cap0 ∧ (∀ i, i < z0.length → w.cell? (x.add i) = some (.int .u8 (z0.getD i 0))) ∧ ∀ n ∈ z0, (Lit.int .u8 n).wf = true) (y0 : len0 * 1 ≤ 140737488351232) (w1 : (Lit.int .i64 a1).wf = true) :
    Calls Try.prog 5 #[.slice a0 len0 cap0, .int .i64 a1] w fun e w' => e = .returned (.bool true) ∧ Below w.heap.size w w' := by
  obtain ⟨l0, rfl, hr0, hm0, hw0, hc0⟩ := ReadsInt.ofRowC w0
  obtain ⟨k, h⟩ := P l0 a1 hm0 y0 hw0 w1
  refine (kedgelaw19_SumsFill.calls k _ _ l0 a1 true w (Kd.C_of_reads (d := (0 : Int)) (h1 := fun _ => rfl) hr0) hc0 h).mono ?_
  rintro e w' ⟨rfl, hd⟩
  exact ⟨rfl, hd⟩

/-! ### kedgeref19_Add: function 40 -/
def kedgeref19_Add.f (a0 : Int) (a1 : Int) : Option (Int) := if (wrap64 ((wrap64 (a0)) + (wrap64 (a1)))) ≥ 65536 then (some (IntKind.u16.wrap (wrap64 ((wrap64 ((wrap64 (a0)) + (wrap64 (a1)))) - 65535)))) else (some (IntKind.u16.wrap (wrap64 ((wrap64 (a0)) + (wrap64 (a1))))))
set_option maxHeartbeats 8000000 in
set_option maxRecDepth 100000 in
theorem kedgeref19_Add.calls (a0 : Int) (a1 : Int) (r : Int) (w : World) (h : kedgeref19_Add.f a0 a1 = some r) :
    Calls Try.prog 40 #[.int .u16 a0, .int .u16 a1] w fun e w' => e = .returned (.int .u16 r) ∧ Drawn0 w w' := by
  have H : (if (wrap64 ((wrap64 (a0)) + (wrap64 (a1)))) ≥ 65536 then (some (IntKind.u16.wrap (wrap64 ((wrap64 ((wrap64 (a0)) + (wrap64 (a1)))) - 65535)))) else (some (IntKind.u16.wrap (wrap64 ((wrap64 (a0)) + (wrap64 (a1))))))) = some r := h
  clear h
  by_cases c3 : (wrap64 ((wrap64 (a0)) + (wrap64 (a1)))) ≥ 65536
  · rw [if_pos c3] at H
    have c3b0 : decide (65536 ≤ (wrap64 ((wrap64 (a0)) + (wrap64 (a1))))) = true := decide_eq_true c3
    clear c3
    obtain rfl := Option.some.inj H
    go_enter Try.func40, Try.ntmps40
    go_wp2
    go_ret
    exact ⟨by first | rfl | (simp; done) | (simp [*]; done), by repeat (first | exact Drawn0.refl _ | apply Drawn0.step)⟩
  · rw [if_neg c3] at H
    have c3b0 : decide (65536 ≤ (wrap64 ((wrap64 (a0)) + (wrap64 (a1))))) = false := decide_eq_false c3
    clear c3
    obtain rfl := Option.some.inj H
    go_enter Try.func40, Try.ntmps40
    go_wp2
    go_ret
    exact ⟨by first | rfl | (simp; done) | (simp [*]; done), by repeat (first | exact Drawn0.refl _ | apply Drawn0.step)⟩

/-! ### kedgeref19_Sum: function 38 -/
def kedgeref19_Sum.l0 : Nat → List Int → Int → Int → Option (Int)
  | 0, _, _, _ => none
  | k + 1, x0, x3, x4 => if x4 < (x0.length : Int) then (if 0 ≤ x4 then (if (wrap64 (x4 + 1)) < (x0.length : Int) then (if 0 ≤ (wrap64 (x4 + 1)) then ((kedgeref19_Add.f x3 (IntKind.u16.wrap ((IntKind.u16.wrap ((IntKind.u16.wrap (rd x0 x4)) * 256)) + (IntKind.u16.wrap (rd x0 (wrap64 (x4 + 1))))))).bind fun t170 => (kedgeref19_Sum.l0 k x0 t170 (wrap64 (x4 + 2)))) else (none)) else ((kedgeref19_Add.f x3 (IntKind.u16.wrap ((IntKind.u16.wrap (rd x0 x4)) * 256))).bind fun t171 => (kedgeref19_Sum.l0 k x0 t171 (wrap64 (x4 + 2))))) else (none)) else (some (IntKind.u16.wrap (65535 - x3)))
def kedgeref19_Sum.f (k : Nat) (l0 : List Int) : Option (Int) := kedgeref19_Sum.l0 k l0 0 0
theorem kedgeref19_Sum.mono_l : ∀ k, (∀ y0 y1 y2, LeO (kedgeref19_Sum.l0 k y0 y1 y2) (kedgeref19_Sum.l0 (k + 1) y0 y1 y2))
  | 0 => fun _ _ _ r h => by simp [kedgeref19_Sum.l0] at h
  | k + 1 => by
    have ih0 := kedgeref19_Sum.mono_l k
    · intro y0 y1 y2
      unfold kedgeref19_Sum.l0
      repeat' first
      | (with_reducible exact ih0 _ _ _)
      | (with_reducible exact LeO.refl _)
      | (with_reducible exact LeO.none _)
      | (with_reducible refine LeO.ite ?_ ?_)
      | (with_reducible refine LeO.bind ?_ (fun _ => ?_))
      | exact ih0 _ _ _
      | exact LeO.none _
      | refine LeO.ite ?_ ?_
      | refine LeO.bind ?_ (fun _ => ?_)
theorem kedgeref19_Sum.mono : ∀ a0 k, LeO (kedgeref19_Sum.f k a0) (kedgeref19_Sum.f (k + 1) a0) := by
  intro a0 k
  have ih0 := kedgeref19_Sum.mono_l k
  unfold kedgeref19_Sum.f
  repeat' first
      | (with_reducible exact ih0 _ _ _)
      | (with_reducible exact LeO.refl _)
      | (with_reducible exact LeO.none _)
      | (with_reducible refine LeO.ite ?_ ?_)
      | (with_reducible refine LeO.bind ?_ (fun _ => ?_))
      | exact ih0 _ _ _
      | exact LeO.none _
      | refine LeO.ite ?_ ?_
      | refine LeO.bind ?_ (fun _ => ?_)
set_option maxHeartbeats 8000000 in
set_option maxRecDepth 100000 in
theorem kedgeref19_Sum.calls (k : Nat) (A0 : Option Addr) (c0 : Nat) (l0 : List Int) (r : Int) (w : World) (hr0 : Kd.C (Kd.int .u8) w A0 l0.length l0) (hc0 : l0.length ≤ c0) (h : kedgeref19_Sum.f k l0 = some r) :
    Calls Try.prog 38 #[.slice A0 l0.length c0] w fun e w' => e = .returned (.int .u16 r) ∧ Drawn0 w w' := by
  have HR0 := Aside0.mk hr0
  have HC0 := Aside0.mk hc0
  clear hr0 hc0
  have H : (kedgeref19_Sum.l0 k l0 0 0) = some r := h
  clear h
  have H' := Aside0.mk H
  clear H
  go_enter Try.func38, Try.ntmps38
  go_wp2
  go_loopg [3, 4] k (fun kq v3 v4 w' => ∃ (x3_1 : Int) (x4_1 : Int), v3 = .int .u16 x3_1 ∧ v4 = .int .i64 x4_1 ∧ Aside0 (kedgeref19_Sum.l0 kq l0 x3_1 x4_1 = some r) ∧ Aside0 (kq ≤ k) ∧ Drawn0 w w')
  case atStart => exact ⟨(0), (0), (by first | rfl | (simp; done) | (simp [*]; done)), (by first | rfl | (simp; done) | (simp [*]; done)), H', ⟨Nat.le_refl _⟩, by repeat (first | exact Drawn0.refl _ | apply Drawn0.step)⟩
  case round =>
    clear H'
    obtain ⟨x3_1, x4_1, rfl, rfl, HA, HK1, ⟨m1, rfl⟩⟩ := hrel
    cases gk with
    | zero => exact absurd HA.out (by simp [kedgeref19_Sum.l0])
    | succ k1 =>
      have H := HA.out
      clear HA
      simp only [kedgeref19_Sum.l0] at H
      by_cases c2 : x4_1 < (l0.length : Int)
      · rw [if_pos c2] at H
        have c2b0 : decide (x4_1 < (l0.length : Int)) = true := decide_eq_true c2
        clear c2
        by_cases c3 : 0 ≤ x4_1
        · rw [if_pos c3] at H
          have c3b0 : decide (0 ≤ x4_1) = true := decide_eq_true c3
          clear c3
          by_cases c4 : (wrap64 (x4_1 + 1)) < (l0.length : Int)
          · rw [if_pos c4] at H
            have c4b0 : decide ((wrap64 (x4_1 + 1)) < (l0.length : Int)) = true := decide_eq_true c4
            clear c4
            obtain ⟨ji5, hji5⟩ : ∃ j_ : Int, (wrap64 (x4_1 + 1)) = j_ := ⟨_, rfl⟩
            replace H : (if 0 ≤ (ji5) then ((kedgeref19_Add.f x3_1 (IntKind.u16.wrap ((IntKind.u16.wrap ((IntKind.u16.wrap (rd l0 x4_1)) * 256)) + (IntKind.u16.wrap (rd l0 (ji5)))))).bind fun t170 => (kedgeref19_Sum.l0 k1 l0 t170 (wrap64 (x4_1 + 2)))) else (none)) = some r := by first | (rw [hji5] at H; exact H) | (simp only [hji5] at H ⊢; exact H)
            (try rw [hji5] at c4b0)
            have hji5w : (IntKind.i64.wrap (x4_1 + 1)) = ji5 := (i64_w _).trans hji5
            by_cases c6 : 0 ≤ (ji5)
            · rw [if_pos c6] at H
              have c6b0 : decide (0 ≤ (ji5)) = true := decide_eq_true c6
              clear c6
              replace H := Option.bind_eq_some_iff.mp H
              obtain ⟨t170, A70, H⟩ := H
              replace H : (kedgeref19_Sum.l0 k1 l0 t170 (wrap64 (x4_1 + 2))) = some r := H
              have A7 := Aside0.mk A70
              clear A70
              have H' := Aside0.mk H
              clear H
              have p168 : 0 ≤ (x4_1 : Int) := of_decide_eq_true (by first | (with_reducible assumption) | assumption)
              have q168 : x4_1 < (l0.length : Int) := of_decide_eq_true (by first | (with_reducible assumption) | assumption)
              obtain ⟨ad168, e168, hx168_0⟩ := Kd.at_int HR0.out x4_1 p168 q168
              cases e168
              replace p168 := eq_true p168
              replace q168 := eq_true q168
              have p169 : 0 ≤ ((ji5) : Int) := of_decide_eq_true (by first | (with_reducible assumption) | assumption)
              have q169 : (ji5) < (l0.length : Int) := of_decide_eq_true (by first | (with_reducible assumption) | assumption)
              obtain ⟨ad169, e169, hx169_0⟩ := Kd.at_int HR0.out (ji5) p169 q169
              obtain rfl : ad168 = ad169 := (by injection e169)
              replace p169 := eq_true p169
              replace q169 := eq_true q169
              go_wp2_with (first | ((with_reducible refine gate_callee (f := 40) rfl ?_); refine goesL_ (some 33) rfl rfl Try.func40 (by kernel_rfl) rfl #[.int .u16 x3_1, .int .u16 (IntKind.u16.wrap ((IntKind.u16.wrap ((IntKind.u16.wrap (rd l0 x4_1)) * 256)) + (IntKind.u16.wrap (rd l0 (ji5)))))] rfl (by (try simp only [List.map_toArray, List.map_cons, List.map_nil]); first | done | (simp only [hji5]; rfl) | rfl | (simp only [List.length_drop, List.length_take]; rfl)) ?_; (with_reducible refine (kedgeref19_Add.calls x3_1 (IntKind.u16.wrap ((IntKind.u16.wrap ((IntKind.u16.wrap (rd l0 x4_1)) * 256)) + (IntKind.u16.wrap (rd l0 (ji5))))) t170 _ A7.out).mono ?_); rintro e w' ⟨rfl, ⟨nd, rfl⟩⟩; refine ⟨_, rfl, ?_⟩))
              go_roundg k1
              case measure => have := HK1.out; omega
              case rel => exact ⟨(t170), (wrap64 (x4_1 + 2)), (by first | rfl | (simp; done) | (simp [*]; done)), (by first | rfl | (simp; done) | (simp [*]; done)), H', ⟨by have := HK1.out; omega⟩, by repeat (first | exact Drawn0.refl _ | apply Drawn0.step)⟩
            · rw [if_neg c6] at H
              exact absurd H (by simp)
          · rw [if_neg c4] at H
            have c4b0 : decide ((wrap64 (x4_1 + 1)) < (l0.length : Int)) = false := decide_eq_false c4
            clear c4
            replace H := Option.bind_eq_some_iff.mp H
            obtain ⟨t171, A80, H⟩ := H
            replace H : (kedgeref19_Sum.l0 k1 l0 t171 (wrap64 (x4_1 + 2))) = some r := H
            have A8 := Aside0.mk A80
            clear A80
            have H' := Aside0.mk H
            clear H
            have p168 : 0 ≤ (x4_1 : Int) := of_decide_eq_true (by first | (with_reducible assumption) | assumption)
            have q168 : x4_1 < (l0.length : Int) := of_decide_eq_true (by first | (with_reducible assumption) | assumption)
            obtain ⟨ad168, e168, hx168_0⟩ := Kd.at_int HR0.out x4_1 p168 q168
            cases e168
            replace p168 := eq_true p168
            replace q168 := eq_true q168
            go_wp2_with (first | ((with_reducible refine gate_callee (f := 40) rfl ?_); refine goesL_ (some 33) rfl rfl Try.func40 (by kernel_rfl) rfl #[.int .u16 x3_1, .int .u16 (IntKind.u16.wrap ((IntKind.u16.wrap (rd l0 x4_1)) * 256))] rfl (by (try simp only [List.map_toArray, List.map_cons, List.map_nil]); first | done | rfl | (simp only [List.length_drop, List.length_take]; rfl)) ?_; (with_reducible refine (kedgeref19_Add.calls x3_1 (IntKind.u16.wrap ((IntKind.u16.wrap (rd l0 x4_1)) * 256)) t171 _ A8.out).mono ?_); rintro e w' ⟨rfl, ⟨nd, rfl⟩⟩; refine ⟨_, rfl, ?_⟩))
            go_roundg k1
            case measure => have := HK1.out; omega
            case rel => exact ⟨(t171), (wrap64 (x4_1 + 2)), (by first | rfl | (simp; done) | (simp [*]; done)), (by first | rfl | (simp; done) | (simp [*]; done)), H', ⟨by have := HK1.out; omega⟩, by repeat (first | exact Drawn0.refl _ | apply Drawn0.step)⟩
        · rw [if_neg c3] at H
          exact absurd H (by simp)
      · rw [if_neg c2] at H
        have c2b0 : decide (x4_1 < (l0.length : Int)) = false := decide_eq_false c2
        clear c2
        obtain rfl := Option.some.inj H
        go_wp2
        go_ret
        exact ⟨by first | rfl | (simp; done) | (simp [*]; done), by repeat (first | exact Drawn0.refl _ | apply Drawn0.step)⟩

/-! ### kedgeref19_Fill: function 37 -/
def kedgeref19_Fill.f (k : Nat) (l0 : List Int) (a1 : Int) : Option (List Int × Bool) := (some (([] : List Int) : List Int)).bind fun y172 => (if y172.length + l0.length < 140737488355328 then ((some (y172 ++ l0 : List Int)).bind fun y175 => (if a1 < 0 then (some (y175, false)) else (if a1 ≥ (wrap64 ((l0.length : Int) - 1)) then (some (y175, false)) else (if (Int.tmod a1 2) = 0 then (if 0 ≤ a1 then (if a1 < (y175.length : Int) then (if 0 ≤ (wrap64 (a1 + 1)) then (if (wrap64 (a1 + 1)) < (y175.length : Int) then ((some ((y175.set (a1 : Int).toNat 0).set ((wrap64 (a1 + 1)) : Int).toNat 0 : List Int)).bind fun y179 => ((kedgeref19_Sum.f k y179).bind fun t180 => (some (((y179.set (a1 : Int).toNat ((IntKind.u16.wrap (Int.tdiv t180 256)) % 256)).set ((wrap64 (a1 + 1)) : Int).toNat ((Int.tmod t180 256) % 256)), true)))) else (none)) else (none)) else (none)) else (none)) else (some (y175, false)))))) else (none))
theorem kedgeref19_Fill.mono : ∀ a0 a1 k, LeO (kedgeref19_Fill.f k a0 a1) (kedgeref19_Fill.f (k + 1) a0 a1) := by
  intro a0 a1 k
  unfold kedgeref19_Fill.f
  repeat' first
      | (with_reducible exact kedgeref19_Sum.mono _ _)
      | (with_reducible exact LeO.refl _)
      | (with_reducible exact LeO.none _)
      | (with_reducible refine LeO.ite ?_ ?_)
      | (with_reducible refine LeO.bind ?_ (fun _ => ?_))
      | exact kedgeref19_Sum.mono _ _
      | exact LeO.none _
      | refine LeO.ite ?_ ?_
      | refine LeO.bind ?_ (fun _ => ?_)
set_option maxHeartbeats 8000000 in
set_option maxRecDepth 100000 in
theorem kedgeref19_Fill.calls (k : Nat) (A0 : Option Addr) (c0 : Nat) (l0 : List Int) (a1 : Int) (r1 : List Int) (r2 : Bool) (w : World) (hr0 : Kd.C (Kd.int .u8) w A0 l0.length l0) (hc0 : l0.length ≤ c0) (h : kedgeref19_Fill.f k l0 a1 = some (r1, r2)) :
    Calls Try.prog 37 #[.slice A0 l0.length c0, .int .i64 a1] w fun e w' => ∃ v0_ : Value, e = .returned (.tuple #[v0_, .bool r2]) ∧ Kd.R (Kd.int .u8) 5 w' w.heap.size (fun _ => True) v0_ r1 ∧ Below w.heap.size w w' := by
  have HR0 := Aside0.mk hr0
  have HC0 := Aside0.mk hc0
  clear hr0 hc0
  have HB := Aside0.mk (Below.refl w.heap.size w)
  have H : ((some (([] : List Int) : List Int)).bind fun y172 => (if y172.length + l0.length < 140737488355328 then ((some (y172 ++ l0 : List Int)).bind fun y175 => (if a1 < 0 then (some (y175, false)) else (if a1 ≥ (wrap64 ((l0.length : Int) - 1)) then (some (y175, false)) else (if (Int.tmod a1 2) = 0 then (if 0 ≤ a1 then (if a1 < (y175.length : Int) then (if 0 ≤ (wrap64 (a1 + 1)) then (if (wrap64 (a1 + 1)) < (y175.length : Int) then ((some ((y175.set (a1 : Int).toNat 0).set ((wrap64 (a1 + 1)) : Int).toNat 0 : List Int)).bind fun y179 => ((kedgeref19_Sum.f k y179).bind fun t180 => (some (((y179.set (a1 : Int).toNat ((IntKind.u16.wrap (Int.tdiv t180 256)) % 256)).set ((wrap64 (a1 + 1)) : Int).toNat ((Int.tmod t180 256) % 256)), true)))) else (none)) else (none)) else (none)) else (none)) else (some (y175, false)))))) else (none))) = some (r1, r2) := h
  clear h
  obtain ⟨y172, hy172⟩ : ∃ y_ : List Int, y_ = (([] : List Int)) := ⟨_, rfl⟩
  replace H : (if y172.length + l0.length < 140737488355328 then ((some (y172 ++ l0 : List Int)).bind fun y175 => (if a1 < 0 then (some (y175, false)) else (if a1 ≥ (wrap64 ((l0.length : Int) - 1)) then (some (y175, false)) else (if (Int.tmod a1 2) = 0 then (if 0 ≤ a1 then (if a1 < (y175.length : Int) then (if 0 ≤ (wrap64 (a1 + 1)) then (if (wrap64 (a1 + 1)) < (y175.length : Int) then ((some ((y175.set (a1 : Int).toNat 0).set ((wrap64 (a1 + 1)) : Int).toNat 0 : List Int)).bind fun y179 => ((kedgeref19_Sum.f k y179).bind fun t180 => (some (((y179.set (a1 : Int).toNat ((IntKind.u16.wrap (Int.tdiv t180 256)) % 256)).set ((wrap64 (a1 + 1)) : Int).toNat ((Int.tmod t180 256) % 256)), true)))) else (none)) else (none)) else (none)) else (none)) else (some (y175, false)))))) else (none)) = some (r1, r2) := by first | (rw [hy172]; with_reducible exact H) | (have H2_ := (Option.bind_some _ _).symm.trans H; rw [hy172]; with_reducible exact H2_) | (have H2_ := (Option.bind_some _ _).symm.trans H; with_reducible exact H2_) | with_reducible exact H | (rw [hy172]; exact H) | exact H
  have Ny172 := Aside0.mk hy172
  clear hy172
  by_cases c3 : y172.length + l0.length < 140737488355328
  · rw [if_pos c3] at H
    have LMc3 := Aside0.mk c3
    clear c3
    obtain ⟨y175, hy175⟩ : ∃ y_ : List Int, y_ = (y172 ++ l0) := ⟨_, rfl⟩
    replace H : (if a1 < 0 then (some (y175, false)) else (if a1 ≥ (wrap64 ((l0.length : Int) - 1)) then (some (y175, false)) else (if (Int.tmod a1 2) = 0 then (if 0 ≤ a1 then (if a1 < (y175.length : Int) then (if 0 ≤ (wrap64 (a1 + 1)) then (if (wrap64 (a1 + 1)) < (y175.length : Int) then ((some ((y175.set (a1 : Int).toNat 0).set ((wrap64 (a1 + 1)) : Int).toNat 0 : List Int)).bind fun y179 => ((kedgeref19_Sum.f k y179).bind fun t180 => (some (((y179.set (a1 : Int).toNat ((IntKind.u16.wrap (Int.tdiv t180 256)) % 256)).set ((wrap64 (a1 + 1)) : Int).toNat ((Int.tmod t180 256) % 256)), true)))) else (none)) else (none)) else (none)) else (none)) else (some (y175, false))))) = some (r1, r2) := by first | (rw [hy175]; with_reducible exact H) | (have H2_ := (Option.bind_some _ _).symm.trans H; rw [hy175]; with_reducible exact H2_) | (have H2_ := (Option.bind_some _ _).symm.trans H; with_reducible exact H2_) | with_reducible exact H | (rw [hy175]; exact H) | exact H
    have Ny175 := Aside0.mk hy175
    clear hy175
    by_cases c4 : a1 < 0
    · rw [if_pos c4] at H
      have c4b0 : decide (a1 < 0) = true := decide_eq_true c4
      clear c4
      simp only [Option.some.injEq, Prod.mk.injEq] at H
      obtain ⟨rfl, rfl⟩ := H
      go_enter Try.func37, Try.ntmps37
      go_wp2_with (first | ((with_reducible refine gate_dst (N := 8) rfl ?_); (try (refine gate_guard (by rfl) ?_; dsimp only)); refine Kd.R_lit (Kd.int .u8) _ 5 ?hg (N := 8) ?hd (xs := ([] : List Int)) (inner := []) (ok := fun _ => True) (okp := fun _ => True) ?hr ?hp (fun _ hk => hk) trivial (Below.refl _ _) (Nat.le_refl _) (by simp) ?_; (case hd => rfl); (case hg => rfl); (case hr => first | (go_simp; done) | (go_simp; rfl)); (case hp => exact (Reps.none _ _)); intro v173 w5 ho6 hb hg_ hnew_; clear hg_ hnew_; (first | rw [← Ny172.out] at ho6 | (simp only [Int.reduceToNat] at ho6; rw [← Ny172.out] at ho6)); have n0_ := Aside0.mk (Kd.R_lower ho6 (below_size (by repeat (first | (with_reducible first | exact HB.out | apply below_alloc | apply pw_below_drewN | apply below_drew1) | exact HB.out)))); have n1_ := Aside0.mk (below_step (by repeat (first | (with_reducible first | exact HB.out | apply below_alloc | apply pw_below_drewN | apply below_drew1) | exact HB.out)) hb); clear HB; have HO174 := n0_; have HB := n1_; clear n0_ n1_; clear hb ho6) | ((with_reducible refine gate_builtin (b := .append) (xs := #[.tmp 8, .tmp 9]) rfl ?_); (try (refine gate_guard (by rfl) ?_; dsimp only)); at_builtin; refine Kd.R_append_rows (Kd.int .u8) (w0 := w) w.heap.size rfl (.tmp 8) (.tmp 9) 22 5 (.int .u8 0) 1 rfl Try.underlying22 info5 rfl (by decide) (by omega) v173 y172 l0 _ _ _ (fun _ => True) (fun _ => False) rfl rfl ?aO ?aR (fun _ _ h => h) (fun _ h => h.elim) ?aF ?aB ?aS ?aL ?_; (case aR => repeat (first | exact (Kd.C_below HR0.out HB.out) | (with_reducible refine Kd.C_alloc ?_ _) | (with_reducible refine Kd.C_drewN ?_ _) | (with_reducible refine Kd.C_drew ?_))); (case aB => exact (by repeat (first | (with_reducible first | exact HB.out | apply below_alloc | apply pw_below_drewN | apply below_drew1) | exact HB.out))); (case aF => exact (fun _ _ => trivial)); (case aO => exact (by (with_reducible repeat (first | apply Kd.R_alloc | apply Kd.R_drewN | apply Kd.R_drew)); exact HO174.out)); (case aS => exact (below_size (by repeat (first | (with_reducible first | exact HB.out | apply below_alloc | apply pw_below_drewN | apply below_drew1) | exact HB.out)))); (case aL => have := LMc3.out; omega); intro v176 w7 ho hb hg hat; rw [← Ny175.out] at ho; have n0_ := Aside0.mk (hb); have n1_ := Aside0.mk (ho); clear HB; clear HO174; have HB := n0_; have HO177 := n1_; clear n0_ n1_; clear ho hb hg hat))
      go_ret2
      exact ⟨_, by first | rfl | (simp [errW_none, errW_some] <;> rfl) | (simp [*, errW_none, errW_some] <;> rfl), by (with_reducible repeat (first | apply Kd.R_alloc | apply Kd.R_drewN | apply Kd.R_drew)); exact HO177.out, by repeat (first | (with_reducible first | exact HB.out | apply below_alloc | apply pw_below_drewN | apply below_drew1) | exact HB.out)⟩
    · rw [if_neg c4] at H
      have c4b0 : decide (a1 < 0) = false := decide_eq_false c4
      clear c4
      by_cases c8 : a1 ≥ (wrap64 ((l0.length : Int) - 1))
      · rw [if_pos c8] at H
        have c8b0 : decide ((wrap64 ((l0.length : Int) - 1)) ≤ a1) = true := decide_eq_true c8
        clear c8
        simp only [Option.some.injEq, Prod.mk.injEq] at H
        obtain ⟨rfl, rfl⟩ := H
        go_enter Try.func37, Try.ntmps37
        go_wp2_with (first | ((with_reducible refine gate_dst (N := 8) rfl ?_); (try (refine gate_guard (by rfl) ?_; dsimp only)); refine Kd.R_lit (Kd.int .u8) _ 5 ?hg (N := 8) ?hd (xs := ([] : List Int)) (inner := []) (ok := fun _ => True) (okp := fun _ => True) ?hr ?hp (fun _ hk => hk) trivial (Below.refl _ _) (Nat.le_refl _) (by simp) ?_; (case hd => rfl); (case hg => rfl); (case hr => first | (go_simp; done) | (go_simp; rfl)); (case hp => exact (Reps.none _ _)); intro v173 w9 ho10 hb hg_ hnew_; clear hg_ hnew_; (first | rw [← Ny172.out] at ho10 | (simp only [Int.reduceToNat] at ho10; rw [← Ny172.out] at ho10)); have n0_ := Aside0.mk (Kd.R_lower ho10 (below_size (by repeat (first | (with_reducible first | exact HB.out | apply below_alloc | apply pw_below_drewN | apply below_drew1) | exact HB.out)))); have n1_ := Aside0.mk (below_step (by repeat (first | (with_reducible first | exact HB.out | apply below_alloc | apply pw_below_drewN | apply below_drew1) | exact HB.out)) hb); clear HB; have HO174 := n0_; have HB := n1_; clear n0_ n1_; clear hb ho10) | ((with_reducible refine gate_builtin (b := .append) (xs := #[.tmp 8, .tmp 9]) rfl ?_); (try (refine gate_guard (by rfl) ?_; dsimp only)); at_builtin; refine Kd.R_append_rows (Kd.int .u8) (w0 := w) w.heap.size rfl (.tmp 8) (.tmp 9) 22 5 (.int .u8 0) 1 rfl Try.underlying22 info5 rfl (by decide) (by omega) v173 y172 l0 _ _ _ (fun _ => True) (fun _ => False) rfl rfl ?aO ?aR (fun _ _ h => h) (fun _ h => h.elim) ?aF ?aB ?aS ?aL ?_; (case aR => repeat (first | exact (Kd.C_below HR0.out HB.out) | (with_reducible refine Kd.C_alloc ?_ _) | (with_reducible refine Kd.C_drewN ?_ _) | (with_reducible refine Kd.C_drew ?_))); (case aB => exact (by repeat (first | (with_reducible first | exact HB.out | apply below_alloc | apply pw_below_drewN | apply below_drew1) | exact HB.out))); (case aF => exact (fun _ _ => trivial)); (case aO => exact (by (with_reducible repeat (first | apply Kd.R_alloc | apply Kd.R_drewN | apply Kd.R_drew)); exact HO174.out)); (case aS => exact (below_size (by repeat (first | (with_reducible first | exact HB.out | apply below_alloc | apply pw_below_drewN | apply below_drew1) | exact HB.out)))); (case aL => have := LMc3.out; omega); intro v176 w11 ho hb hg hat; rw [← Ny175.out] at ho; have n0_ := Aside0.mk (hb); have n1_ := Aside0.mk (ho); clear HB; clear HO174; have HB := n0_; have HO177 := n1_; clear n0_ n1_; clear ho hb hg hat))
        go_ret2
        exact ⟨_, by first | rfl | (simp [errW_none, errW_some] <;> rfl) | (simp [*, errW_none, errW_some] <;> rfl), by (with_reducible repeat (first | apply Kd.R_alloc | apply Kd.R_drewN | apply Kd.R_drew)); exact HO177.out, by repeat (first | (with_reducible first | exact HB.out | apply below_alloc | apply pw_below_drewN | apply below_drew1) | exact HB.out)⟩
      · rw [if_neg c8] at H
        have c8b0 : decide ((wrap64 ((l0.length : Int) - 1)) ≤ a1) = false := decide_eq_false c8
        clear c8
        by_cases c12 : (Int.tmod a1 2) = 0
        · rw [if_pos c12] at H
          have c12b0 : ((Int.tmod a1 2) == 0) = true := beq_iff_eq.mpr c12
          have c12b1 : ((Int.tmod a1 2) != 0) = false := bne_eq_false_iff_eq.mpr c12
          clear c12
          by_cases c13 : 0 ≤ a1
          · rw [if_pos c13] at H
            have c13b0 : decide (0 ≤ a1) = true := decide_eq_true c13
            clear c13
            by_cases c14 : a1 < (y175.length : Int)
            · rw [if_pos c14] at H
              have c14b0 : decide (a1 < (y175.length : Int)) = true := decide_eq_true c14
              clear c14
              obtain ⟨y178, hy178⟩ : ∃ y_ : List Int, y_ = (y175.set (a1 : Int).toNat 0) := ⟨_, rfl⟩
              replace H : (if 0 ≤ (wrap64 (a1 + 1)) then (if (wrap64 (a1 + 1)) < (y175.length : Int) then ((some (y178.set ((wrap64 (a1 + 1)) : Int).toNat 0 : List Int)).bind fun y179 => ((kedgeref19_Sum.f k y179).bind fun t180 => (some (((y179.set (a1 : Int).toNat ((IntKind.u16.wrap (Int.tdiv t180 256)) % 256)).set ((wrap64 (a1 + 1)) : Int).toNat ((Int.tmod t180 256) % 256)), true)))) else (none)) else (none)) = some (r1, r2) := by first | (rw [hy178]; with_reducible exact H) | (have H2_ := (Option.bind_some _ _).symm.trans H; rw [hy178]; with_reducible exact H2_) | (have H2_ := (Option.bind_some _ _).symm.trans H; with_reducible exact H2_) | with_reducible exact H | (rw [hy178]; exact H) | exact H
              have Ny178 := Aside0.mk hy178
              clear hy178
              obtain ⟨ji16, hji16⟩ : ∃ j_ : Int, (wrap64 (a1 + 1)) = j_ := ⟨_, rfl⟩
              replace H : (if 0 ≤ (ji16) then (if (ji16) < (y175.length : Int) then ((some (y178.set ((ji16) : Int).toNat 0 : List Int)).bind fun y179 => ((kedgeref19_Sum.f k y179).bind fun t180 => (some (((y179.set (a1 : Int).toNat ((IntKind.u16.wrap (Int.tdiv t180 256)) % 256)).set ((ji16) : Int).toNat ((Int.tmod t180 256) % 256)), true)))) else (none)) else (none)) = some (r1, r2) := by first | (rw [hji16] at H; exact H) | (simp only [hji16] at H ⊢; exact H)
              have hji16w : (IntKind.i64.wrap (a1 + 1)) = ji16 := (i64_w _).trans hji16
              by_cases c17 : 0 ≤ (ji16)
              · rw [if_pos c17] at H
                have c17b0 : decide (0 ≤ (ji16)) = true := decide_eq_true c17
                clear c17
                by_cases c18 : (ji16) < (y175.length : Int)
                · rw [if_pos c18] at H
                  have c18b0 : decide ((ji16) < (y175.length : Int)) = true := decide_eq_true c18
                  clear c18
                  obtain ⟨y179, hy179⟩ : ∃ y_ : List Int, y_ = (y178.set ((ji16) : Int).toNat 0) := ⟨_, rfl⟩
                  replace H : ((kedgeref19_Sum.f k y179).bind fun t180 => (some (((y179.set (a1 : Int).toNat ((IntKind.u16.wrap (Int.tdiv t180 256)) % 256)).set ((ji16) : Int).toNat ((Int.tmod t180 256) % 256)), true))) = some (r1, r2) := by first | (rw [hy179]; with_reducible exact H) | (have H2_ := (Option.bind_some _ _).symm.trans H; rw [hy179]; with_reducible exact H2_) | (have H2_ := (Option.bind_some _ _).symm.trans H; with_reducible exact H2_) | with_reducible exact H | (rw [hy179]; exact H) | exact H
                  have Ny179 := Aside0.mk hy179
                  clear hy179
                  replace H := Option.bind_eq_some_iff.mp H
                  obtain ⟨t180, A200, H⟩ := H
                  replace H : (some (((y179.set (a1 : Int).toNat ((IntKind.u16.wrap (Int.tdiv t180 256)) % 256)).set ((ji16) : Int).toNat ((Int.tmod t180 256) % 256)), true)) = some (r1, r2) := H
                  have A20 := Aside0.mk A200
                  clear A200
                  obtain ⟨y181, hy181⟩ : ∃ y_ : List Int, y_ = (y179.set (a1 : Int).toNat ((IntKind.u16.wrap (Int.tdiv t180 256)) % 256)) := ⟨_, rfl⟩
                  replace H : (some ((y181.set ((ji16) : Int).toNat ((Int.tmod t180 256) % 256)), true)) = some (r1, r2) := by first | (rw [hy181]; with_reducible exact H) | (have H2_ := (Option.bind_some _ _).symm.trans H; rw [hy181]; with_reducible exact H2_) | (have H2_ := (Option.bind_some _ _).symm.trans H; with_reducible exact H2_) | with_reducible exact H | (rw [hy181]; exact H) | exact H
                  have Ny181 := Aside0.mk hy181
                  clear hy181
                  obtain ⟨y182, hy182⟩ : ∃ y_ : List Int, y_ = (y181.set ((ji16) : Int).toNat ((Int.tmod t180 256) % 256)) := ⟨_, rfl⟩
                  replace H : (some (y182, true)) = some (r1, r2) := by first | (rw [hy182]; with_reducible exact H) | (have H2_ := (Option.bind_some _ _).symm.trans H; rw [hy182]; with_reducible exact H2_) | (have H2_ := (Option.bind_some _ _).symm.trans H; with_reducible exact H2_) | with_reducible exact H | (rw [hy182]; exact H) | exact H
                  have Ny182 := Aside0.mk hy182
                  clear hy182
                  simp only [Option.some.injEq, Prod.mk.injEq] at H
                  obtain ⟨rfl, rfl⟩ := H
                  go_enter Try.func37, Try.ntmps37
                  go_wp2_with (first | ((with_reducible refine gate_dst (N := 8) rfl ?_); (try (refine gate_guard (by rfl) ?_; dsimp only)); refine Kd.R_lit (Kd.int .u8) _ 5 ?hg (N := 8) ?hd (xs := ([] : List Int)) (inner := []) (ok := fun _ => True) (okp := fun _ => True) ?hr ?hp (fun _ hk => hk) trivial (Below.refl _ _) (Nat.le_refl _) (by simp) ?_; (case hd => rfl); (case hg => rfl); (case hr => first | (go_simp; done) | (go_simp; rfl)); (case hp => exact (Reps.none _ _)); intro v173 w23 ho24 hb hg_ hnew_; clear hg_ hnew_; (first | rw [← Ny172.out] at ho24 | (simp only [Int.reduceToNat] at ho24; rw [← Ny172.out] at ho24)); have n0_ := Aside0.mk (Kd.R_lower ho24 (below_size (by repeat (first | (with_reducible first | exact HB.out | apply below_alloc | apply pw_below_drewN | apply below_drew1) | exact HB.out)))); have n1_ := Aside0.mk (below_step (by repeat (first | (with_reducible first | exact HB.out | apply below_alloc | apply pw_below_drewN | apply below_drew1) | exact HB.out)) hb); clear HB; have HO174 := n0_; have HB := n1_; clear n0_ n1_; clear hb ho24) | ((with_reducible refine gate_builtin (b := .append) (xs := #[.tmp 8, .tmp 9]) rfl ?_); (try (refine gate_guard (by rfl) ?_; dsimp only)); at_builtin; refine Kd.R_append_rows (Kd.int .u8) (w0 := w) w.heap.size rfl (.tmp 8) (.tmp 9) 22 5 (.int .u8 0) 1 rfl Try.underlying22 info5 rfl (by decide) (by omega) v173 y172 l0 _ _ _ (fun _ => True) (fun _ => False) rfl rfl ?aO ?aR (fun _ _ h => h) (fun _ h => h.elim) ?aF ?aB ?aS ?aL ?_; (case aR => repeat (first | exact (Kd.C_below HR0.out HB.out) | (with_reducible refine Kd.C_alloc ?_ _) | (with_reducible refine Kd.C_drewN ?_ _) | (with_reducible refine Kd.C_drew ?_))); (case aB => exact (by repeat (first | (with_reducible first | exact HB.out | apply below_alloc | apply pw_below_drewN | apply below_drew1) | exact HB.out))); (case aF => exact (fun _ _ => trivial)); (case aO => exact (by (with_reducible repeat (first | apply Kd.R_alloc | apply Kd.R_drewN | apply Kd.R_drew)); exact HO174.out)); (case aS => exact (below_size (by repeat (first | (with_reducible first | exact HB.out | apply below_alloc | apply pw_below_drewN | apply below_drew1) | exact HB.out)))); (case aL => have := LMc3.out; omega); intro v176 w25 ho hb hg hat; rw [← Ny175.out] at ho; have n0_ := Aside0.mk (hb); have n1_ := Aside0.mk (ho); clear HB; clear HO174; have HB := n0_; have HO177 := n1_; clear n0_ n1_; clear ho hb hg hat; have p15 : 0 ≤ (a1 : Int) := of_decide_eq_true (by first | (with_reducible assumption) | assumption); have q15 : (a1 : Int) < ((y175.length : Int) : Int) := of_decide_eq_true (by first | (with_reducible assumption) | assumption); obtain ⟨go15, co15, eo15, gb15, gl15, cl15, HG15⟩ := Kd.R_form HO177.out (by omega); (first | cases eo15 | (injection eo15 with ea_ en_ ec_; (first | subst ea_ | (injection ea_ with ea_; subst ea_)); subst ec_; clear en_)); have GB15 := Aside0.mk gb15; have GG15 := Aside0.mk HG15; clear gb15 gl15 HG15; obtain ⟨hx15_0, hf15_0⟩ := Kd.R_celln 0 HO177.out (a1 : Int) p15 q15; replace p15 := eq_true p15; replace q15 := eq_true q15; obtain ⟨hy26_, hz26_⟩ := Kd.R_celln 0 HO177.out (a1 : Int) (of_decide_eq_true (by first | (with_reducible assumption) | assumption)) (of_decide_eq_true (by first | (with_reducible assumption) | assumption)); have HP26 := Kd.R_putg HO177.out (a1 : Int) 0) | ((with_reducible refine gate_store (t := 5) (p := 28) rfl ?_); refine store_event (t := 5) (p := 28) (v := ?vo_w27) (w1 := (w25.setCell ⟨go15, (a1 : Int).toNat, none⟩ (.int .u8 0))) ?hg ?ho ?hn ?hr ?_; (case ho => rfl); (case hg => rfl); (case hn => rfl); (case hr => first | (go_simp; done) | (go_simp; rfl)); intro w27 hw; have hg : w25.grownBy w27 (some go15) := (by rw [hw]; exact HP26.2); have hp_ : Kd.R (Kd.int .u8) 5 w27 w.heap.size (fun _ => True) (.slice (some ⟨go15, 0, none⟩) y175.length co15) y178 := (by rw [hw, Ny178.out]; exact HP26.1); clear HP26; have n0_ := Aside0.mk (hp_); have n1_ := Aside0.mk ((by rw [hw]; exact below_set (HB.out) GB15.out : Below w.heap.size w w27)); clear HO177; clear HB; have HO177 := n0_; have HB := n1_; clear n0_ n1_; clear hg hw hp_; have p19 : 0 ≤ ((ji16) : Int) := of_decide_eq_true (by first | (with_reducible assumption) | assumption); have q19 : ((ji16) : Int) < ((y175.length : Int) : Int) := of_decide_eq_true (by first | (with_reducible assumption) | assumption); obtain ⟨hx19_0, hf19_0⟩ := Kd.R_celln 0 HO177.out ((ji16) : Int) p19 q19; replace p19 := eq_true p19; replace q19 := eq_true q19; obtain ⟨hy28_, hz28_⟩ := Kd.R_celln 0 HO177.out ((ji16) : Int) (of_decide_eq_true (by first | (with_reducible assumption) | assumption)) (of_decide_eq_true (by first | (with_reducible assumption) | assumption)); have HP28 := Kd.R_putg HO177.out ((ji16) : Int) 0) | ((with_reducible refine gate_store (t := 5) (p := 32) rfl ?_); refine store_event (t := 5) (p := 32) (v := ?vo_w29) (w1 := (w27.setCell ⟨go15, ((ji16) : Int).toNat, none⟩ (.int .u8 0))) ?hg ?ho ?hn ?hr ?_; (case ho => rfl); (case hg => rfl); (case hn => rfl); (case hr => first | (go_simp; done) | (go_simp; rfl)); intro w29 hw; have hg : w27.grownBy w29 (some go15) := (by rw [hw]; exact HP28.2); have hp_ : Kd.R (Kd.int .u8) 5 w29 w.heap.size (fun _ => True) (.slice (some ⟨go15, 0, none⟩) y175.length co15) y179 := (by rw [hw, Ny179.out]; exact HP28.1); clear HP28; have n0_ := Aside0.mk (hp_); have n1_ := Aside0.mk ((by rw [hw]; exact below_set (HB.out) GB15.out : Below w.heap.size w w29)); clear HO177; clear HB; have HO177 := n0_; have HB := n1_; clear n0_ n1_; clear hg hw hp_) | ((with_reducible refine gate_callee (f := 38) rfl ?_); refine goesL_ (some 34) rfl rfl Try.func38 (by kernel_rfl) rfl #[.slice (some ⟨go15, 0, none⟩) y179.length co15] rfl (by (try simp only [List.map_toArray, List.map_cons, List.map_nil]); first | done | (rw [show y179.length = y175.length from (Kd.R_reads' HO177.out).1.symm] <;> rfl) | rfl | (simp only [List.length_drop, List.length_take]; rfl)) ?_; (with_reducible refine (kedgeref19_Sum.calls k _ _ y179 t180 _ ?side1 ?side2 A20.out).mono ?_); (case side1 => repeat (first | exact (Kd.R_reads' HO177.out).2.2 | (with_reducible refine Kd.C_alloc ?_ _) | (with_reducible refine Kd.C_drewN ?_ _) | (with_reducible refine Kd.C_drew ?_))); (case side2 => rw [show y179.length = y175.length from (Kd.R_reads' HO177.out).1.symm]; exact (Kd.R_reads' HO177.out).2.1); rintro e w' ⟨rfl, ⟨nd, rfl⟩⟩; refine ⟨_, rfl, ?_⟩; (try (rw [drewN_self w29]; generalize hq_ : World.drewN w29 _ = w29; have n0_ : Aside0 (Kd.R (Kd.int .u8) 5 w29 w.heap.size (fun _ => True) (.slice (some ⟨go15, 0, none⟩) y175.length co15) y179) := ⟨by rw [← hq_]; exact (by (with_reducible repeat (first | apply Kd.R_alloc | apply Kd.R_drewN | apply Kd.R_drew)); exact HO177.out)⟩; have n1_ : Aside0 (Below w.heap.size w w29) := ⟨by rw [← hq_]; exact (by repeat (first | (with_reducible first | exact HB.out | apply below_alloc | apply pw_below_drewN | apply below_drew1) | exact HB.out))⟩; clear HO177 HB hq_; have HO177 := n0_; have HB := n1_; clear n0_ n1_)); have p21 : 0 ≤ (a1 : Int) := of_decide_eq_true (by first | (with_reducible assumption) | assumption); have q21 : (a1 : Int) < ((y175.length : Int) : Int) := of_decide_eq_true (by first | (with_reducible assumption) | assumption); obtain ⟨hx21_0, hf21_0⟩ := Kd.R_celln 0 HO177.out (a1 : Int) p21 q21; replace p21 := eq_true p21; replace q21 := eq_true q21; obtain ⟨hy30_, hz30_⟩ := Kd.R_celln 0 HO177.out (a1 : Int) (of_decide_eq_true (by first | (with_reducible assumption) | assumption)) (of_decide_eq_true (by first | (with_reducible assumption) | assumption)); have HP30 := Kd.R_putg HO177.out (a1 : Int) ((IntKind.u16.wrap (Int.tdiv t180 256)) % 256)) | ((with_reducible refine gate_store (t := 5) (p := 40) rfl ?_); refine store_event (t := 5) (p := 40) (v := ?vo_w31) (w1 := (w29.setCell ⟨go15, (a1 : Int).toNat, none⟩ (.int .u8 ((IntKind.u16.wrap (Int.tdiv t180 256)) % 256)))) ?hg ?ho ?hn ?hr ?_; (case ho => rfl); (case hg => rfl); (case hn => rfl); (case hr => first | (go_simp; done) | (go_simp; rfl)); intro w31 hw; have hg : w29.grownBy w31 (some go15) := (by rw [hw]; exact HP30.2); have hp_ : Kd.R (Kd.int .u8) 5 w31 w.heap.size (fun _ => True) (.slice (some ⟨go15, 0, none⟩) y175.length co15) y181 := (by rw [hw, Ny181.out]; exact HP30.1); clear HP30; have n0_ := Aside0.mk (hp_); have n1_ := Aside0.mk ((by rw [hw]; exact below_set (HB.out) GB15.out : Below w.heap.size w w31)); clear HO177; clear HB; have HO177 := n0_; have HB := n1_; clear n0_ n1_; clear hg hw hp_; have p22 : 0 ≤ ((ji16) : Int) := of_decide_eq_true (by first | (with_reducible assumption) | assumption); have q22 : ((ji16) : Int) < ((y175.length : Int) : Int) := of_decide_eq_true (by first | (with_reducible assumption) | assumption); obtain ⟨hx22_0, hf22_0⟩ := Kd.R_celln 0 HO177.out ((ji16) : Int) p22 q22; replace p22 := eq_true p22; replace q22 := eq_true q22; obtain ⟨hy32_, hz32_⟩ := Kd.R_celln 0 HO177.out ((ji16) : Int) (of_decide_eq_true (by first | (with_reducible assumption) | assumption)) (of_decide_eq_true (by first | (with_reducible assumption) | assumption)); have HP32 := Kd.R_putg HO177.out ((ji16) : Int) ((Int.tmod t180 256) % 256)) | ((with_reducible refine gate_store (t := 5) (p := 47) rfl ?_); refine store_event (t := 5) (p := 47) (v := ?vo_w33) (w1 := (w31.setCell ⟨go15, ((ji16) : Int).toNat, none⟩ (.int .u8 ((Int.tmod t180 256) % 256)))) ?hg ?ho ?hn ?hr ?_; (case ho => rfl); (case hg => rfl); (case hn => rfl); (case hr => first | (go_simp; done) | (go_simp; rfl)); intro w33 hw; have hg : w31.grownBy w33 (some go15) := (by rw [hw]; exact HP32.2); have hp_ : Kd.R (Kd.int .u8) 5 w33 w.heap.size (fun _ => True) (.slice (some ⟨go15, 0, none⟩) y175.length co15) y182 := (by rw [hw, Ny182.out]; exact HP32.1); clear HP32; have n0_ := Aside0.mk (hp_); have n1_ := Aside0.mk ((by rw [hw]; exact below_set (HB.out) GB15.out : Below w.heap.size w w33)); clear HO177; clear HB; have HO177 := n0_; have HB := n1_; clear n0_ n1_; clear hg hw hp_))
                  go_ret2
                  exact ⟨_, by first | rfl | (simp [errW_none, errW_some] <;> rfl) | (simp only [← hji16]; first | rfl | (simp [errW_none, errW_some] <;> rfl)) | (simp [*, errW_none, errW_some] <;> rfl), by (with_reducible repeat (first | apply Kd.R_alloc | apply Kd.R_drewN | apply Kd.R_drew)); exact HO177.out, by repeat (first | (with_reducible first | exact HB.out | apply below_alloc | apply pw_below_drewN | apply below_drew1) | exact HB.out)⟩
                · rw [if_neg c18] at H
                  exact absurd H (by simp)
              · rw [if_neg c17] at H
                exact absurd H (by simp)
            · rw [if_neg c14] at H
              exact absurd H (by simp)
          · rw [if_neg c13] at H
            exact absurd H (by simp)
        · rw [if_neg c12] at H
          have c12b0 : ((Int.tmod a1 2) == 0) = false := beq_eq_false_iff_ne.mpr c12
          have c12b1 : ((Int.tmod a1 2) != 0) = true := bne_iff_ne.mpr c12
          simp only [Option.some.injEq, Prod.mk.injEq] at H
          obtain ⟨rfl, rfl⟩ := H
          go_enter Try.func37, Try.ntmps37
          go_wp2_with (first | ((with_reducible refine gate_dst (N := 8) rfl ?_); (try (refine gate_guard (by rfl) ?_; dsimp only)); refine Kd.R_lit (Kd.int .u8) _ 5 ?hg (N := 8) ?hd (xs := ([] : List Int)) (inner := []) (ok := fun _ => True) (okp := fun _ => True) ?hr ?hp (fun _ hk => hk) trivial (Below.refl _ _) (Nat.le_refl _) (by simp) ?_; (case hd => rfl); (case hg => rfl); (case hr => first | (go_simp; done) | (go_simp; rfl)); (case hp => exact (Reps.none _ _)); intro v173 w34 ho35 hb hg_ hnew_; clear hg_ hnew_; (first | rw [← Ny172.out] at ho35 | (simp only [Int.reduceToNat] at ho35; rw [← Ny172.out] at ho35)); have n0_ := Aside0.mk (Kd.R_lower ho35 (below_size (by repeat (first | (with_reducible first | exact HB.out | apply below_alloc | apply pw_below_drewN | apply below_drew1) | exact HB.out)))); have n1_ := Aside0.mk (below_step (by repeat (first | (with_reducible first | exact HB.out | apply below_alloc | apply pw_below_drewN | apply below_drew1) | exact HB.out)) hb); clear HB; have HO174 := n0_; have HB := n1_; clear n0_ n1_; clear hb ho35) | ((with_reducible refine gate_builtin (b := .append) (xs := #[.tmp 8, .tmp 9]) rfl ?_); (try (refine gate_guard (by rfl) ?_; dsimp only)); at_builtin; refine Kd.R_append_rows (Kd.int .u8) (w0 := w) w.heap.size rfl (.tmp 8) (.tmp 9) 22 5 (.int .u8 0) 1 rfl Try.underlying22 info5 rfl (by decide) (by omega) v173 y172 l0 _ _ _ (fun _ => True) (fun _ => False) rfl rfl ?aO ?aR (fun _ _ h => h) (fun _ h => h.elim) ?aF ?aB ?aS ?aL ?_; (case aR => repeat (first | exact (Kd.C_below HR0.out HB.out) | (with_reducible refine Kd.C_alloc ?_ _) | (with_reducible refine Kd.C_drewN ?_ _) | (with_reducible refine Kd.C_drew ?_))); (case aB => exact (by repeat (first | (with_reducible first | exact HB.out | apply below_alloc | apply pw_below_drewN | apply below_drew1) | exact HB.out))); (case aF => exact (fun _ _ => trivial)); (case aO => exact (by (with_reducible repeat (first | apply Kd.R_alloc | apply Kd.R_drewN | apply Kd.R_drew)); exact HO174.out)); (case aS => exact (below_size (by repeat (first | (with_reducible first | exact HB.out | apply below_alloc | apply pw_below_drewN | apply below_drew1) | exact HB.out)))); (case aL => have := LMc3.out; omega); intro v176 w36 ho hb hg hat; rw [← Ny175.out] at ho; have n0_ := Aside0.mk (hb); have n1_ := Aside0.mk (ho); clear HB; clear HO174; have HB := n0_; have HO177 := n1_; clear n0_ n1_; clear ho hb hg hat))
          go_ret2
          exact ⟨_, by first | rfl | (simp [errW_none, errW_some] <;> rfl) | (simp [*, errW_none, errW_some] <;> rfl), by (with_reducible repeat (first | apply Kd.R_alloc | apply Kd.R_drewN | apply Kd.R_drew)); exact HO177.out, by repeat (first | (with_reducible first | exact HB.out | apply below_alloc | apply pw_below_drewN | apply below_drew1) | exact HB.out)⟩
  · rw [if_neg c3] at H
    exact absurd H (by simp)

/-! ### kedgeref19_Check: function 39 -/
def kedgeref19_Check.f (k : Nat) (l0 : List Int) : Option (Bool) := (kedgeref19_Sum.f k l0).bind fun t183 => (some (t183 == 0))
theorem kedgeref19_Check.mono : ∀ a0 k, LeO (kedgeref19_Check.f k a0) (kedgeref19_Check.f (k + 1) a0) := by
  intro a0 k
  unfold kedgeref19_Check.f
  repeat' first
      | (with_reducible exact kedgeref19_Sum.mono _ _)
      | (with_reducible exact LeO.refl _)
      | (with_reducible exact LeO.none _)
      | (with_reducible refine LeO.ite ?_ ?_)
      | (with_reducible refine LeO.bind ?_ (fun _ => ?_))
      | exact kedgeref19_Sum.mono _ _
      | exact LeO.none _
      | refine LeO.ite ?_ ?_
      | refine LeO.bind ?_ (fun _ => ?_)
set_option maxHeartbeats 8000000 in
set_option maxRecDepth 100000 in
theorem kedgeref19_Check.calls (k : Nat) (A0 : Option Addr) (c0 : Nat) (l0 : List Int) (r : Bool) (w : World) (hr0 : Kd.C (Kd.int .u8) w A0 l0.length l0) (hc0 : l0.length ≤ c0) (h : kedgeref19_Check.f k l0 = some r) :
    Calls Try.prog 39 #[.slice A0 l0.length c0] w fun e w' => e = .returned (.bool r) ∧ Drawn0 w w' := by
  have HR0 := Aside0.mk hr0
  have HC0 := Aside0.mk hc0
  clear hr0 hc0
  have H : ((kedgeref19_Sum.f k l0).bind fun t183 => (some (t183 == 0))) = some r := h
  clear h
  replace H := Option.bind_eq_some_iff.mp H
  obtain ⟨t183, A20, H⟩ := H
  replace H : (some (t183 == 0)) = some r := H
  have A2 := Aside0.mk A20
  clear A20
  obtain rfl := Option.some.inj H
  go_enter Try.func39, Try.ntmps39
  go_wp2_with (first | ((with_reducible refine gate_callee (f := 38) rfl ?_); refine goesL_ (some 4) rfl rfl Try.func38 (by kernel_rfl) rfl #[.slice A0 l0.length c0] rfl (by (try simp only [List.map_toArray, List.map_cons, List.map_nil]); first | done | rfl | (simp only [List.length_drop, List.length_take]; rfl)) ?_; (with_reducible refine (kedgeref19_Sum.calls k _ _ l0 t183 _ ?side1 ?side2 A2.out).mono ?_); (case side1 => repeat (first | exact HR0.out | (with_reducible refine Kd.C_alloc ?_ _) | (with_reducible refine Kd.C_drewN ?_ _) | (with_reducible refine Kd.C_drew ?_))); (case side2 => exact HC0.out); rintro e w' ⟨rfl, ⟨nd, rfl⟩⟩; refine ⟨_, rfl, ?_⟩))
  go_ret
  exact ⟨by first | rfl | (simp; done) | (simp [*]; done), by repeat (first | exact Drawn0.refl _ | apply Drawn0.step)⟩

/-! ### kedgeref19_Patch: function 41 -/
def kedgeref19_Patch.f (a0 : Int) (a1 : Int) (a2 : Int) : Option (Int) := (kedgeref19_Add.f (IntKind.u16.wrap (65535 - a0)) (IntKind.u16.wrap (65535 - a1))).bind fun t184 => ((kedgeref19_Add.f t184 a2).bind fun t185 => (some (IntKind.u16.wrap (65535 - t185))))
set_option maxHeartbeats 8000000 in
set_option maxRecDepth 100000 in
theorem kedgeref19_Patch.calls (a0 : Int) (a1 : Int) (a2 : Int) (r : Int) (w : World) (h : kedgeref19_Patch.f a0 a1 a2 = some r) :
    Calls Try.prog 41 #[.int .u16 a0, .int .u16 a1, .int .u16 a2] w fun e w' => e = .returned (.int .u16 r) ∧ Drawn0 w w' := by
  have H : ((kedgeref19_Add.f (IntKind.u16.wrap (65535 - a0)) (IntKind.u16.wrap (65535 - a1))).bind fun t184 => ((kedgeref19_Add.f t184 a2).bind fun t185 => (some (IntKind.u16.wrap (65535 - t185))))) = some r := h
  clear h
  replace H := Option.bind_eq_some_iff.mp H
  obtain ⟨t184, A40, H⟩ := H
  replace H : ((kedgeref19_Add.f t184 a2).bind fun t185 => (some (IntKind.u16.wrap (65535 - t185)))) = some r := H
  have A4 := Aside0.mk A40
  clear A40
  replace H := Option.bind_eq_some_iff.mp H
  obtain ⟨t185, A50, H⟩ := H
  replace H : (some (IntKind.u16.wrap (65535 - t185))) = some r := H
  have A5 := Aside0.mk A50
  clear A50
  obtain rfl := Option.some.inj H
  go_enter Try.func41, Try.ntmps41
  go_wp2_with (first | ((with_reducible refine gate_callee (f := 40) rfl ?_); refine goesL_ (some 11) rfl rfl Try.func40 (by kernel_rfl) rfl #[.int .u16 (IntKind.u16.wrap (65535 - a0)), .int .u16 (IntKind.u16.wrap (65535 - a1))] rfl (by (try simp only [List.map_toArray, List.map_cons, List.map_nil]); first | done | rfl | (simp only [List.length_drop, List.length_take]; rfl)) ?_; (with_reducible refine (kedgeref19_Add.calls (IntKind.u16.wrap (65535 - a0)) (IntKind.u16.wrap (65535 - a1)) t184 _ A4.out).mono ?_); rintro e w' ⟨rfl, ⟨nd, rfl⟩⟩; refine ⟨_, rfl, ?_⟩) | ((with_reducible refine gate_callee (f := 40) rfl ?_); refine goesL_ (some 13) rfl rfl Try.func40 (by kernel_rfl) rfl #[.int .u16 t184, .int .u16 a2] rfl (by (try simp only [List.map_toArray, List.map_cons, List.map_nil]); first | done | rfl | (simp only [List.length_drop, List.length_take]; rfl)) ?_; (with_reducible refine (kedgeref19_Add.calls t184 a2 t185 _ A5.out).mono ?_); rintro e w' ⟨rfl, ⟨nd, rfl⟩⟩; refine ⟨_, rfl, ?_⟩))
  go_ret
  exact ⟨by first | rfl | (simp; done) | (simp [*]; done), by repeat (first | exact Drawn0.refl _ | apply Drawn0.step)⟩

end Go.Proofs.Ytcilcmbailoeaaa.KS
