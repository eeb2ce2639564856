-- Written by kprint.py, a program of this session, over the kit's print.py; functions marked HAND are our own texts.
import Derived.Test.YtcilcmbailoeaaaKSx0
import Derived.Test.YtcilcmbailoeaaaKSx1
namespace Go.Proofs.Ytcilcmbailoeaaa.KS
open Go.RowKit Go.Proofs.YtcilcmbailoeaaaW.PrintWords Go.Proofs.YtcilcmbailoeaaaW.PrintLast Go.Proofs.YtcilcmbailoeaaaW.PrintMore
attribute [local go_sem] max2_int min2_int max_two min_two max_three min_three max_four min_four   -- for this text's walks alone
set_option linter.unusedVariables false
set_option linter.unusedSimpArgs false

/-! ### kedgelaw19_SumsOrder: function 4 -/
def kedgelaw19_SumsOrder.f (k : Nat) (a0 : Int) (a1 : Int) (a2 : Int) : Option (Bool) := (kedgelaw19_awake.f k).bind fun t141 => (if t141 = true then ((sums_Add.f k a0 a1).bind fun t142 => ((sums_Add.f k a1 a0).bind fun t143 => (if t142 = t143 then ((sums_Add.f k t142 a2).bind fun t144 => ((sums_Add.f k a1 a2).bind fun t145 => ((sums_Add.f k a0 t145).bind fun t146 => (if t144 = t146 then ((sums_Add.f k a0 0).bind fun t147 => (if t147 = a0 then ((sums_Add.f k a0 (IntKind.u16.wrap (65535 - a0))).bind fun t148 => (if t148 = 65535 then (if a0 = 65535 then (some true) else ((sums_Patch.f k a0 a1 a1).bind fun t149 => (some (t149 == a0)))) else (some false))) else (some false))) else (some false))))) else (some false)))) else (some false))
theorem kedgelaw19_SumsOrder.mono : ∀ a0 a1 a2 k, LeO (kedgelaw19_SumsOrder.f k a0 a1 a2) (kedgelaw19_SumsOrder.f (k + 1) a0 a1 a2) := by
  intro a0 a1 a2 k
  unfold kedgelaw19_SumsOrder.f
  repeat' first
      | (with_reducible exact kedgelaw19_awake.mono _)
      | (with_reducible exact sums_Add.mono _ _ _)
      | (with_reducible exact sums_Patch.mono _ _ _ _)
      | (with_reducible exact LeO.refl _)
      | (with_reducible exact LeO.none _)
      | (with_reducible refine LeO.ite ?_ ?_)
      | (with_reducible refine LeO.bind ?_ (fun _ => ?_))
      | exact kedgelaw19_awake.mono _
      | exact sums_Add.mono _ _ _
      | exact sums_Patch.mono _ _ _ _
      | exact LeO.none _
      | refine LeO.ite ?_ ?_
      | refine LeO.bind ?_ (fun _ => ?_)
set_option maxHeartbeats 8000000 in
set_option maxRecDepth 100000 in
theorem kedgelaw19_SumsOrder.calls (k : Nat) (a0 : Int) (a1 : Int) (a2 : Int) (r : Bool) (w : World) (h : kedgelaw19_SumsOrder.f k a0 a1 a2 = some r) :
    Calls Try.prog 4 #[.int .u16 a0, .int .u16 a1, .int .u16 a2] w fun e w' => e = .returned (.bool r) ∧ Below w.heap.size w w' := by
  have HB := Aside0.mk (Below.refl w.heap.size w)
  have H : ((kedgelaw19_awake.f k).bind fun t141 => (if t141 = true then ((sums_Add.f k a0 a1).bind fun t142 => ((sums_Add.f k a1 a0).bind fun t143 => (if t142 = t143 then ((sums_Add.f k t142 a2).bind fun t144 => ((sums_Add.f k a1 a2).bind fun t145 => ((sums_Add.f k a0 t145).bind fun t146 => (if t144 = t146 then ((sums_Add.f k a0 0).bind fun t147 => (if t147 = a0 then ((sums_Add.f k a0 (IntKind.u16.wrap (65535 - a0))).bind fun t148 => (if t148 = 65535 then (if a0 = 65535 then (some true) else ((sums_Patch.f k a0 a1 a1).bind fun t149 => (some (t149 == a0)))) else (some false))) else (some false))) else (some false))))) else (some false)))) else (some false))) = some r := h
  clear h
  replace H := Option.bind_eq_some_iff.mp H
  obtain ⟨t141, A40, H⟩ := H
  replace H : (if t141 = true then ((sums_Add.f k a0 a1).bind fun t142 => ((sums_Add.f k a1 a0).bind fun t143 => (if t142 = t143 then ((sums_Add.f k t142 a2).bind fun t144 => ((sums_Add.f k a1 a2).bind fun t145 => ((sums_Add.f k a0 t145).bind fun t146 => (if t144 = t146 then ((sums_Add.f k a0 0).bind fun t147 => (if t147 = a0 then ((sums_Add.f k a0 (IntKind.u16.wrap (65535 - a0))).bind fun t148 => (if t148 = 65535 then (if a0 = 65535 then (some true) else ((sums_Patch.f k a0 a1 a1).bind fun t149 => (some (t149 == a0)))) else (some false))) else (some false))) else (some false))))) else (some false)))) else (some false)) = some r := H
  have A4 := Aside0.mk A40
  clear A40
  by_cases c5 : t141 = true
  · subst c5
    have H1 : ((sums_Add.f k a0 a1).bind fun t142 => ((sums_Add.f k a1 a0).bind fun t143 => (if t142 = t143 then ((sums_Add.f k t142 a2).bind fun t144 => ((sums_Add.f k a1 a2).bind fun t145 => ((sums_Add.f k a0 t145).bind fun t146 => (if t144 = t146 then ((sums_Add.f k a0 0).bind fun t147 => (if t147 = a0 then ((sums_Add.f k a0 (IntKind.u16.wrap (65535 - a0))).bind fun t148 => (if t148 = 65535 then (if a0 = 65535 then (some true) else ((sums_Patch.f k a0 a1 a1).bind fun t149 => (some (t149 == a0)))) else (some false))) else (some false))) else (some false))))) else (some false)))) = some r := by rw [if_pos rfl] at H; exact H
    clear H
    have H := H1
    clear H1
    replace H := Option.bind_eq_some_iff.mp H
    obtain ⟨t142, A60, H⟩ := H
    replace H : ((sums_Add.f k a1 a0).bind fun t143 => (if t142 = t143 then ((sums_Add.f k t142 a2).bind fun t144 => ((sums_Add.f k a1 a2).bind fun t145 => ((sums_Add.f k a0 t145).bind fun t146 => (if t144 = t146 then ((sums_Add.f k a0 0).bind fun t147 => (if t147 = a0 then ((sums_Add.f k a0 (IntKind.u16.wrap (65535 - a0))).bind fun t148 => (if t148 = 65535 then (if a0 = 65535 then (some true) else ((sums_Patch.f k a0 a1 a1).bind fun t149 => (some (t149 == a0)))) else (some false))) else (some false))) else (some false))))) else (some false))) = some r := H
    have A6 := Aside0.mk A60
    clear A60
    replace H := Option.bind_eq_some_iff.mp H
    obtain ⟨t143, A70, H⟩ := H
    replace H : (if t142 = t143 then ((sums_Add.f k t142 a2).bind fun t144 => ((sums_Add.f k a1 a2).bind fun t145 => ((sums_Add.f k a0 t145).bind fun t146 => (if t144 = t146 then ((sums_Add.f k a0 0).bind fun t147 => (if t147 = a0 then ((sums_Add.f k a0 (IntKind.u16.wrap (65535 - a0))).bind fun t148 => (if t148 = 65535 then (if a0 = 65535 then (some true) else ((sums_Patch.f k a0 a1 a1).bind fun t149 => (some (t149 == a0)))) else (some false))) else (some false))) else (some false))))) else (some false)) = some r := H
    have A7 := Aside0.mk A70
    clear A70
    by_cases c8 : t142 = t143
    · rw [if_pos c8] at H
      have c8b0 : (t142 == t143) = true := beq_iff_eq.mpr c8
      have c8b1 : (t142 != t143) = false := bne_eq_false_iff_eq.mpr c8
      clear c8
      replace H := Option.bind_eq_some_iff.mp H
      obtain ⟨t144, A90, H⟩ := H
      replace H : ((sums_Add.f k a1 a2).bind fun t145 => ((sums_Add.f k a0 t145).bind fun t146 => (if t144 = t146 then ((sums_Add.f k a0 0).bind fun t147 => (if t147 = a0 then ((sums_Add.f k a0 (IntKind.u16.wrap (65535 - a0))).bind fun t148 => (if t148 = 65535 then (if a0 = 65535 then (some true) else ((sums_Patch.f k a0 a1 a1).bind fun t149 => (some (t149 == a0)))) else (some false))) else (some false))) else (some false)))) = some r := H
      have A9 := Aside0.mk A90
      clear A90
      replace H := Option.bind_eq_some_iff.mp H
      obtain ⟨t145, A100, H⟩ := H
      replace H : ((sums_Add.f k a0 t145).bind fun t146 => (if t144 = t146 then ((sums_Add.f k a0 0).bind fun t147 => (if t147 = a0 then ((sums_Add.f k a0 (IntKind.u16.wrap (65535 - a0))).bind fun t148 => (if t148 = 65535 then (if a0 = 65535 then (some true) else ((sums_Patch.f k a0 a1 a1).bind fun t149 => (some (t149 == a0)))) else (some false))) else (some false))) else (some false))) = some r := H
      have A10 := Aside0.mk A100
      clear A100
      replace H := Option.bind_eq_some_iff.mp H
      obtain ⟨t146, A110, H⟩ := H
      replace H : (if t144 = t146 then ((sums_Add.f k a0 0).bind fun t147 => (if t147 = a0 then ((sums_Add.f k a0 (IntKind.u16.wrap (65535 - a0))).bind fun t148 => (if t148 = 65535 then (if a0 = 65535 then (some true) else ((sums_Patch.f k a0 a1 a1).bind fun t149 => (some (t149 == a0)))) else (some false))) else (some false))) else (some false)) = some r := H
      have A11 := Aside0.mk A110
      clear A110
      by_cases c12 : t144 = t146
      · rw [if_pos c12] at H
        have c12b0 : (t144 == t146) = true := beq_iff_eq.mpr c12
        have c12b1 : (t144 != t146) = false := bne_eq_false_iff_eq.mpr c12
        clear c12
        replace H := Option.bind_eq_some_iff.mp H
        obtain ⟨t147, A130, H⟩ := H
        replace H : (if t147 = a0 then ((sums_Add.f k a0 (IntKind.u16.wrap (65535 - a0))).bind fun t148 => (if t148 = 65535 then (if a0 = 65535 then (some true) else ((sums_Patch.f k a0 a1 a1).bind fun t149 => (some (t149 == a0)))) else (some false))) else (some false)) = some r := H
        have A13 := Aside0.mk A130
        clear A130
        by_cases c14 : t147 = a0
        · rw [if_pos c14] at H
          have c14b0 : (t147 == a0) = true := beq_iff_eq.mpr c14
          have c14b1 : (t147 != a0) = false := bne_eq_false_iff_eq.mpr c14
          clear c14
          replace H := Option.bind_eq_some_iff.mp H
          obtain ⟨t148, A150, H⟩ := H
          replace H : (if t148 = 65535 then (if a0 = 65535 then (some true) else ((sums_Patch.f k a0 a1 a1).bind fun t149 => (some (t149 == a0)))) else (some false)) = some r := H
          have A15 := Aside0.mk A150
          clear A150
          by_cases c16 : t148 = 65535
          · rw [if_pos c16] at H
            have c16b0 : (t148 == 65535) = true := beq_iff_eq.mpr c16
            have c16b1 : (t148 != 65535) = false := bne_eq_false_iff_eq.mpr c16
            clear c16
            by_cases c17 : a0 = 65535
            · rw [if_pos c17] at H
              have c17b0 : (a0 == 65535) = true := beq_iff_eq.mpr c17
              have c17b1 : (a0 != 65535) = false := bne_eq_false_iff_eq.mpr c17
              clear c17
              obtain rfl := Option.some.inj H
              go_enter Try.func4, Try.ntmps4
              go_wp2_with (first | ((with_reducible refine gate_callee (f := 31) rfl ?_); refine goesL_ (some 8) rfl rfl Try.func31 (by kernel_rfl) rfl #[] rfl (by (try simp only [List.map_toArray, List.map_cons, List.map_nil]); first | done | rfl | (simp only [List.length_drop, List.length_take]; rfl)) ?_; (with_reducible refine (kedgelaw19_awake.calls k  true _ A4.out).mono ?_); rintro e w18 ⟨rfl, hb⟩; refine ⟨_, rfl, ?_⟩; have n0_ := Aside0.mk (below_step (by repeat (first | (with_reducible first | exact HB.out | apply below_alloc | apply pw_below_drewN | apply below_drew1) | exact HB.out)) hb); clear HB; have HB := n0_; clear n0_; (try clear hb); (try clear hb2); (try clear hk); (try clear hi)) | (go_at_call 33; (with_reducible refine (sums_Add.calls k a0 a1 t142 _ A6.out).mono ?_); rintro e w' ⟨rfl, ⟨nd, rfl⟩⟩) | (go_at_call 33; (with_reducible refine (sums_Add.calls k a1 a0 t143 _ A7.out).mono ?_); rintro e w' ⟨rfl, ⟨nd, rfl⟩⟩) | (go_at_call 33; (with_reducible refine (sums_Add.calls k t142 a2 t144 _ A9.out).mono ?_); rintro e w' ⟨rfl, ⟨nd, rfl⟩⟩) | (go_at_call 33; (with_reducible refine (sums_Add.calls k a1 a2 t145 _ A10.out).mono ?_); rintro e w' ⟨rfl, ⟨nd, rfl⟩⟩) | (go_at_call 33; (with_reducible refine (sums_Add.calls k a0 t145 t146 _ A11.out).mono ?_); rintro e w' ⟨rfl, ⟨nd, rfl⟩⟩) | (go_at_call 33; (with_reducible refine (sums_Add.calls k a0 0 t147 _ A13.out).mono ?_); rintro e w' ⟨rfl, ⟨nd, rfl⟩⟩) | (go_at_call 33; (with_reducible refine (sums_Add.calls k a0 (IntKind.u16.wrap (65535 - a0)) t148 _ A15.out).mono ?_); rintro e w' ⟨rfl, ⟨nd, rfl⟩⟩))
              go_ret
              exact ⟨by first | rfl | (simp [errW_none, errW_some] <;> rfl) | (simp [*, errW_none, errW_some] <;> rfl), by repeat (first | (with_reducible first | exact HB.out | apply below_alloc | apply pw_below_drewN | apply below_drew1) | exact HB.out)⟩
            · rw [if_neg c17] at H
              have c17b0 : (a0 == 65535) = false := beq_eq_false_iff_ne.mpr c17
              have c17b1 : (a0 != 65535) = true := bne_iff_ne.mpr c17
              replace H := Option.bind_eq_some_iff.mp H
              obtain ⟨t149, A190, H⟩ := H
              replace H : (some (t149 == a0)) = some r := H
              have A19 := Aside0.mk A190
              clear A190
              obtain rfl := Option.some.inj H
              go_enter Try.func4, Try.ntmps4
              go_wp2_with (first | ((with_reducible refine gate_callee (f := 31) rfl ?_); refine goesL_ (some 8) rfl rfl Try.func31 (by kernel_rfl) rfl #[] rfl (by (try simp only [List.map_toArray, List.map_cons, List.map_nil]); first | done | rfl | (simp only [List.length_drop, List.length_take]; rfl)) ?_; (with_reducible refine (kedgelaw19_awake.calls k  true _ A4.out).mono ?_); rintro e w20 ⟨rfl, hb⟩; refine ⟨_, rfl, ?_⟩; have n0_ := Aside0.mk (below_step (by repeat (first | (with_reducible first | exact HB.out | apply below_alloc | apply pw_below_drewN | apply below_drew1) | exact HB.out)) hb); clear HB; have HB := n0_; clear n0_; (try clear hb); (try clear hb2); (try clear hk); (try clear hi)) | (go_at_call 33; (with_reducible refine (sums_Add.calls k a0 a1 t142 _ A6.out).mono ?_); rintro e w' ⟨rfl, ⟨nd, rfl⟩⟩) | (go_at_call 33; (with_reducible refine (sums_Add.calls k a1 a0 t143 _ A7.out).mono ?_); rintro e w' ⟨rfl, ⟨nd, rfl⟩⟩) | (go_at_call 33; (with_reducible refine (sums_Add.calls k t142 a2 t144 _ A9.out).mono ?_); rintro e w' ⟨rfl, ⟨nd, rfl⟩⟩) | (go_at_call 33; (with_reducible refine (sums_Add.calls k a1 a2 t145 _ A10.out).mono ?_); rintro e w' ⟨rfl, ⟨nd, rfl⟩⟩) | (go_at_call 33; (with_reducible refine (sums_Add.calls k a0 t145 t146 _ A11.out).mono ?_); rintro e w' ⟨rfl, ⟨nd, rfl⟩⟩) | (go_at_call 33; (with_reducible refine (sums_Add.calls k a0 0 t147 _ A13.out).mono ?_); rintro e w' ⟨rfl, ⟨nd, rfl⟩⟩) | (go_at_call 33; (with_reducible refine (sums_Add.calls k a0 (IntKind.u16.wrap (65535 - a0)) t148 _ A15.out).mono ?_); rintro e w' ⟨rfl, ⟨nd, rfl⟩⟩) | (go_at_call 35; (with_reducible refine (sums_Patch.calls k a0 a1 a1 t149 _ A19.out).mono ?_); rintro e w' ⟨rfl, ⟨nd, rfl⟩⟩))
              go_ret
              exact ⟨by first | rfl | (simp [errW_none, errW_some] <;> rfl) | (simp [*, errW_none, errW_some] <;> rfl), by repeat (first | (with_reducible first | exact HB.out | apply below_alloc | apply pw_below_drewN | apply below_drew1) | exact HB.out)⟩
          · rw [if_neg c16] at H
            have c16b0 : (t148 == 65535) = false := beq_eq_false_iff_ne.mpr c16
            have c16b1 : (t148 != 65535) = true := bne_iff_ne.mpr c16
            obtain rfl := Option.some.inj H
            go_enter Try.func4, Try.ntmps4
            go_wp2_with (first | ((with_reducible refine gate_callee (f := 31) rfl ?_); refine goesL_ (some 8) rfl rfl Try.func31 (by kernel_rfl) rfl #[] rfl (by (try simp only [List.map_toArray, List.map_cons, List.map_nil]); first | done | rfl | (simp only [List.length_drop, List.length_take]; rfl)) ?_; (with_reducible refine (kedgelaw19_awake.calls k  true _ A4.out).mono ?_); rintro e w21 ⟨rfl, hb⟩; refine ⟨_, rfl, ?_⟩; have n0_ := Aside0.mk (below_step (by repeat (first | (with_reducible first | exact HB.out | apply below_alloc | apply pw_below_drewN | apply below_drew1) | exact HB.out)) hb); clear HB; have HB := n0_; clear n0_; (try clear hb); (try clear hb2); (try clear hk); (try clear hi)) | (go_at_call 33; (with_reducible refine (sums_Add.calls k a0 a1 t142 _ A6.out).mono ?_); rintro e w' ⟨rfl, ⟨nd, rfl⟩⟩) | (go_at_call 33; (with_reducible refine (sums_Add.calls k a1 a0 t143 _ A7.out).mono ?_); rintro e w' ⟨rfl, ⟨nd, rfl⟩⟩) | (go_at_call 33; (with_reducible refine (sums_Add.calls k t142 a2 t144 _ A9.out).mono ?_); rintro e w' ⟨rfl, ⟨nd, rfl⟩⟩) | (go_at_call 33; (with_reducible refine (sums_Add.calls k a1 a2 t145 _ A10.out).mono ?_); rintro e w' ⟨rfl, ⟨nd, rfl⟩⟩) | (go_at_call 33; (with_reducible refine (sums_Add.calls k a0 t145 t146 _ A11.out).mono ?_); rintro e w' ⟨rfl, ⟨nd, rfl⟩⟩) | (go_at_call 33; (with_reducible refine (sums_Add.calls k a0 0 t147 _ A13.out).mono ?_); rintro e w' ⟨rfl, ⟨nd, rfl⟩⟩) | (go_at_call 33; (with_reducible refine (sums_Add.calls k a0 (IntKind.u16.wrap (65535 - a0)) t148 _ A15.out).mono ?_); rintro e w' ⟨rfl, ⟨nd, rfl⟩⟩))
            go_ret
            exact ⟨by first | rfl | (simp [errW_none, errW_some] <;> rfl) | (simp [*, errW_none, errW_some] <;> rfl), by repeat (first | (with_reducible first | exact HB.out | apply below_alloc | apply pw_below_drewN | apply below_drew1) | exact HB.out)⟩
        · rw [if_neg c14] at H
          have c14b0 : (t147 == a0) = false := beq_eq_false_iff_ne.mpr c14
          have c14b1 : (t147 != a0) = true := bne_iff_ne.mpr c14
          obtain rfl := Option.some.inj H
          go_enter Try.func4, Try.ntmps4
          go_wp2_with (first | ((with_reducible refine gate_callee (f := 31) rfl ?_); refine goesL_ (some 8) rfl rfl Try.func31 (by kernel_rfl) rfl #[] rfl (by (try simp only [List.map_toArray, List.map_cons, List.map_nil]); first | done | rfl | (simp only [List.length_drop, List.length_take]; rfl)) ?_; (with_reducible refine (kedgelaw19_awake.calls k  true _ A4.out).mono ?_); rintro e w22 ⟨rfl, hb⟩; refine ⟨_, rfl, ?_⟩; have n0_ := Aside0.mk (below_step (by repeat (first | (with_reducible first | exact HB.out | apply below_alloc | apply pw_below_drewN | apply below_drew1) | exact HB.out)) hb); clear HB; have HB := n0_; clear n0_; (try clear hb); (try clear hb2); (try clear hk); (try clear hi)) | (go_at_call 33; (with_reducible refine (sums_Add.calls k a0 a1 t142 _ A6.out).mono ?_); rintro e w' ⟨rfl, ⟨nd, rfl⟩⟩) | (go_at_call 33; (with_reducible refine (sums_Add.calls k a1 a0 t143 _ A7.out).mono ?_); rintro e w' ⟨rfl, ⟨nd, rfl⟩⟩) | (go_at_call 33; (with_reducible refine (sums_Add.calls k t142 a2 t144 _ A9.out).mono ?_); rintro e w' ⟨rfl, ⟨nd, rfl⟩⟩) | (go_at_call 33; (with_reducible refine (sums_Add.calls k a1 a2 t145 _ A10.out).mono ?_); rintro e w' ⟨rfl, ⟨nd, rfl⟩⟩) | (go_at_call 33; (with_reducible refine (sums_Add.calls k a0 t145 t146 _ A11.out).mono ?_); rintro e w' ⟨rfl, ⟨nd, rfl⟩⟩) | (go_at_call 33; (with_reducible refine (sums_Add.calls k a0 0 t147 _ A13.out).mono ?_); rintro e w' ⟨rfl, ⟨nd, rfl⟩⟩))
          go_ret
          exact ⟨by first | rfl | (simp [errW_none, errW_some] <;> rfl) | (simp [*, errW_none, errW_some] <;> rfl), by repeat (first | (with_reducible first | exact HB.out | apply below_alloc | apply pw_below_drewN | apply below_drew1) | exact HB.out)⟩
      · rw [if_neg c12] at H
        have c12b0 : (t144 == t146) = false := beq_eq_false_iff_ne.mpr c12
        have c12b1 : (t144 != t146) = true := bne_iff_ne.mpr c12
        obtain rfl := Option.some.inj H
        go_enter Try.func4, Try.ntmps4
        go_wp2_with (first | ((with_reducible refine gate_callee (f := 31) rfl ?_); refine goesL_ (some 8) rfl rfl Try.func31 (by kernel_rfl) rfl #[] rfl (by (try simp only [List.map_toArray, List.map_cons, List.map_nil]); first | done | rfl | (simp only [List.length_drop, List.length_take]; rfl)) ?_; (with_reducible refine (kedgelaw19_awake.calls k  true _ A4.out).mono ?_); rintro e w23 ⟨rfl, hb⟩; refine ⟨_, rfl, ?_⟩; have n0_ := Aside0.mk (below_step (by repeat (first | (with_reducible first | exact HB.out | apply below_alloc | apply pw_below_drewN | apply below_drew1) | exact HB.out)) hb); clear HB; have HB := n0_; clear n0_; (try clear hb); (try clear hb2); (try clear hk); (try clear hi)) | (go_at_call 33; (with_reducible refine (sums_Add.calls k a0 a1 t142 _ A6.out).mono ?_); rintro e w' ⟨rfl, ⟨nd, rfl⟩⟩) | (go_at_call 33; (with_reducible refine (sums_Add.calls k a1 a0 t143 _ A7.out).mono ?_); rintro e w' ⟨rfl, ⟨nd, rfl⟩⟩) | (go_at_call 33; (with_reducible refine (sums_Add.calls k t142 a2 t144 _ A9.out).mono ?_); rintro e w' ⟨rfl, ⟨nd, rfl⟩⟩) | (go_at_call 33; (with_reducible refine (sums_Add.calls k a1 a2 t145 _ A10.out).mono ?_); rintro e w' ⟨rfl, ⟨nd, rfl⟩⟩) | (go_at_call 33; (with_reducible refine (sums_Add.calls k a0 t145 t146 _ A11.out).mono ?_); rintro e w' ⟨rfl, ⟨nd, rfl⟩⟩))
        go_ret
        exact ⟨by first | rfl | (simp [errW_none, errW_some] <;> rfl) | (simp [*, errW_none, errW_some] <;> rfl), by repeat (first | (with_reducible first | exact HB.out | apply below_alloc | apply pw_below_drewN | apply below_drew1) | exact HB.out)⟩
    · rw [if_neg c8] at H
      have c8b0 : (t142 == t143) = false := beq_eq_false_iff_ne.mpr c8
      have c8b1 : (t142 != t143) = true := bne_iff_ne.mpr c8
      obtain rfl := Option.some.inj H
      go_enter Try.func4, Try.ntmps4
      go_wp2_with (first | ((with_reducible refine gate_callee (f := 31) rfl ?_); refine goesL_ (some 8) rfl rfl Try.func31 (by kernel_rfl) rfl #[] rfl (by (try simp only [List.map_toArray, List.map_cons, List.map_nil]); first | done | rfl | (simp only [List.length_drop, List.length_take]; rfl)) ?_; (with_reducible refine (kedgelaw19_awake.calls k  true _ A4.out).mono ?_); rintro e w24 ⟨rfl, hb⟩; refine ⟨_, rfl, ?_⟩; have n0_ := Aside0.mk (below_step (by repeat (first | (with_reducible first | exact HB.out | apply below_alloc | apply pw_below_drewN | apply below_drew1) | exact HB.out)) hb); clear HB; have HB := n0_; clear n0_; (try clear hb); (try clear hb2); (try clear hk); (try clear hi)) | (go_at_call 33; (with_reducible refine (sums_Add.calls k a0 a1 t142 _ A6.out).mono ?_); rintro e w' ⟨rfl, ⟨nd, rfl⟩⟩) | (go_at_call 33; (with_reducible refine (sums_Add.calls k a1 a0 t143 _ A7.out).mono ?_); rintro e w' ⟨rfl, ⟨nd, rfl⟩⟩))
      go_ret
      exact ⟨by first | rfl | (simp [errW_none, errW_some] <;> rfl) | (simp [*, errW_none, errW_some] <;> rfl), by repeat (first | (with_reducible first | exact HB.out | apply below_alloc | apply pw_below_drewN | apply below_drew1) | exact HB.out)⟩
  · replace c5 := Bool.eq_false_iff.mpr c5
    subst c5
    have H1 : (some false) = some r := by rw [if_neg (show ¬ (false = true) by decide)] at H; exact H
    clear H
    have H := H1
    clear H1
    obtain rfl := Option.some.inj H
    go_enter Try.func4, Try.ntmps4
    go_wp2_with (first | ((with_reducible refine gate_callee (f := 31) rfl ?_); refine goesL_ (some 8) rfl rfl Try.func31 (by kernel_rfl) rfl #[] rfl (by (try simp only [List.map_toArray, List.map_cons, List.map_nil]); first | done | rfl | (simp only [List.length_drop, List.length_take]; rfl)) ?_; (with_reducible refine (kedgelaw19_awake.calls k  false _ A4.out).mono ?_); rintro e w25 ⟨rfl, hb⟩; refine ⟨_, rfl, ?_⟩; have n0_ := Aside0.mk (below_step (by repeat (first | (with_reducible first | exact HB.out | apply below_alloc | apply pw_below_drewN | apply below_drew1) | exact HB.out)) hb); clear HB; have HB := n0_; clear n0_; (try clear hb); (try clear hb2); (try clear hk); (try clear hi)))
    go_ret
    exact ⟨by first | rfl | (simp [errW_none, errW_some] <;> rfl) | (simp [*, errW_none, errW_some] <;> rfl), by repeat (first | (with_reducible first | exact HB.out | apply below_alloc | apply pw_below_drewN | apply below_drew1) | exact HB.out)⟩

/-- THE ONE PURE STATEMENT of kedgelaw19_SumsOrder: yours. -/
def kedgelaw19_SumsOrder.Pure : Prop := ∀ (a0 : Int) (a1 : Int) (a2 : Int), (Lit.int .u16 a0).wf = true → (Lit.int .u16 a1).wf = true → (Lit.int .u16 a2).wf = true → ∃ k, kedgelaw19_SumsOrder.f k a0 a1 a2 = some true
theorem kedgelaw19_SumsOrder.walk (P : kedgelaw19_SumsOrder.Pure) (a0 : Int) (a1 : Int) (a2 : Int) (w : World) (w0 : (Lit.int .u16 a0).wf = true) (w1 : (Lit.int .u16 a1).wf = true) (w2 : (Lit.int .u16 a2).wf = true) :
    Calls Try.prog 4 #[.int .u16 a0, .int .u16 a1, .int .u16 a2] w fun e w' => e = .returned (.bool true) ∧ Below w.heap.size w w' := by
  obtain ⟨k, h⟩ := P a0 a1 a2 w0 w1 w2
  refine (kedgelaw19_SumsOrder.calls k a0 a1 a2 true w h).mono ?_
  rintro e w' ⟨rfl, hd⟩
  exact ⟨rfl, hd⟩

/-! ### bytes_Clone: function 99 -/
def bytes_Clone.f (l0 : List Int) : Option (List Int) := (some (([] : List Int) : List Int)).bind fun y150 => (if y150.length + l0.length < 140737488355328 then (some (y150 ++ l0)) else (none))
set_option maxHeartbeats 8000000 in
set_option maxRecDepth 100000 in
theorem bytes_Clone.calls (A0 : Option Addr) (c0 : Nat) (l0 : List Int) (r : List Int) (w : World) (hr0 : Kd.C (Kd.int .u8) w A0 l0.length l0) (hc0 : l0.length ≤ c0) (h : bytes_Clone.f l0 = some r) :
    Calls Try.prog 99 #[.slice A0 l0.length c0] w fun e w' => ∃ v0_ : Value, e = .returned (v0_) ∧ Kd.R (Kd.int .u8) 5 w' w.heap.size (fun _ => True) v0_ r ∧ Below w.heap.size w w' := by
  have HR0 := Aside0.mk hr0
  have HC0 := Aside0.mk hc0
  clear hr0 hc0
  have HB := Aside0.mk (Below.refl w.heap.size w)
  have H : ((some (([] : List Int) : List Int)).bind fun y150 => (if y150.length + l0.length < 140737488355328 then (some (y150 ++ l0)) else (none))) = some r := h
  clear h
  obtain ⟨y150, hy150⟩ : ∃ y_ : List Int, y_ = (([] : List Int)) := ⟨_, rfl⟩
  replace H : (if y150.length + l0.length < 140737488355328 then (some (y150 ++ l0)) else (none)) = some r := by first | (rw [hy150]; with_reducible exact H) | (have H2_ := (Option.bind_some _ _).symm.trans H; rw [hy150]; with_reducible exact H2_) | (have H2_ := (Option.bind_some _ _).symm.trans H; with_reducible exact H2_) | with_reducible exact H | (rw [hy150]; exact H) | exact H
  have Ny150 := Aside0.mk hy150
  clear hy150
  by_cases c2 : y150.length + l0.length < 140737488355328
  · rw [if_pos c2] at H
    have LMc2 := Aside0.mk c2
    clear c2
    obtain ⟨y153, hy153⟩ : ∃ y_ : List Int, y_ = (y150 ++ l0) := ⟨_, rfl⟩
    replace H : (some y153) = some r := by first | (rw [hy153]; with_reducible exact H) | (have H2_ := (Option.bind_some _ _).symm.trans H; rw [hy153]; with_reducible exact H2_) | (have H2_ := (Option.bind_some _ _).symm.trans H; with_reducible exact H2_) | with_reducible exact H | (rw [hy153]; exact H) | exact H
    have Ny153 := Aside0.mk hy153
    clear hy153
    obtain rfl := Option.some.inj H
    have hq_ := fun (W_ : World) => Lib.run_eql_slice_nil (P := Try.prog) W_ 22 5 A0 l0.length c0 0 0 Try.underlying22
    rcases A0 with _ | ad0_
    · obtain rfl : l0 = [] := C_none_ HR0.out
      obtain rfl : y153 = [] := by rw [Ny153.out, Ny150.out]; rfl
      simp only [List.length_nil, Option.isNone_none] at hq_ ⊢
      clear HR0 HC0 H LMc2 Ny153 Ny150
      go_enter Try.func99, Try.ntmps99
      go_wp2
      go_ret
      exact ⟨_, rfl, Kd.R_nil _ _ _ _ _, HB.out⟩
    simp only [Option.isNone_some] at hq_
    go_enter Try.func99, Try.ntmps99
    go_wp2_with (first | ((with_reducible refine gate_dst (N := 5) rfl ?_); refine Kd.R_lit (Kd.int .u8) _ 5 ?hg (N := 5) ?hd (xs := ([] : List Int)) (inner := []) (ok := fun _ => True) (okp := fun _ => True) ?hr ?hp (fun _ hk => hk) trivial (Below.refl _ _) (Nat.le_refl _) (by simp) ?_; (case hd => rfl); (case hg => rfl); (case hr => first | (go_simp; done) | (go_simp; rfl)); (case hp => exact (Reps.none _ _)); intro v151 w3 ho4 hb hg_ hnew_; clear hg_ hnew_; (first | rw [← Ny150.out] at ho4 | (simp only [Int.reduceToNat] at ho4; rw [← Ny150.out] at ho4)); have n0_ := Aside0.mk (Kd.R_lower ho4 (below_size (by repeat (first | (with_reducible first | exact HB.out | apply below_alloc | apply pw_below_drewN | apply below_drew1) | exact HB.out)))); have n1_ := Aside0.mk (below_step (by repeat (first | (with_reducible first | exact HB.out | apply below_alloc | apply pw_below_drewN | apply below_drew1) | exact HB.out)) hb); clear HB; have HO152 := n0_; have HB := n1_; clear n0_ n1_; clear hb ho4) | ((with_reducible refine gate_builtin (b := .append) (xs := #[.tmp 5, .tmp 6]) rfl ?_); at_builtin; refine Kd.R_append_rows (Kd.int .u8) (w0 := w) w.heap.size rfl (.tmp 5) (.tmp 6) 22 5 (.int .u8 0) 1 rfl Try.underlying22 info5 rfl (by decide) (by omega) v151 y150 l0 _ _ _ (fun _ => True) (fun _ => False) rfl rfl ?aO ?aR (fun _ _ h => h) (fun _ h => h.elim) ?aF ?aB ?aS ?aL ?_; (case aR => repeat (first | exact (Kd.C_below HR0.out HB.out) | (with_reducible refine Kd.C_alloc ?_ _) | (with_reducible refine Kd.C_drewN ?_ _) | (with_reducible refine Kd.C_drew ?_))); (case aB => exact (by repeat (first | (with_reducible first | exact HB.out | apply below_alloc | apply pw_below_drewN | apply below_drew1) | exact HB.out))); (case aF => exact (fun _ _ => trivial)); (case aO => exact (by (with_reducible repeat (first | apply Kd.R_alloc | apply Kd.R_drewN | apply Kd.R_drew)); exact HO152.out)); (case aS => exact (below_size (by repeat (first | (with_reducible first | exact HB.out | apply below_alloc | apply pw_below_drewN | apply below_drew1) | exact HB.out)))); (case aL => have := LMc2.out; omega); intro v154 w5 ho hb hg hat; rw [← Ny153.out] at ho; have n0_ := Aside0.mk (hb); have n1_ := Aside0.mk (ho); clear HB; clear HO152; have HB := n0_; have HO155 := n1_; clear n0_ n1_; clear ho hb hg hat))
    go_ret
    exact ⟨_, by first | rfl | (simp [errW_none, errW_some] <;> rfl) | (simp [*, errW_none, errW_some] <;> rfl), by (with_reducible repeat (first | apply Kd.R_alloc | apply Kd.R_drewN | apply Kd.R_drew)); exact HO155.out, by repeat (first | (with_reducible first | exact HB.out | apply below_alloc | apply pw_below_drewN | apply below_drew1) | exact HB.out)⟩
  · rw [if_neg c2] at H
    exact absurd H (by simp)

/-! ### HAND sums_Fill: function 36 -/
/-- bytes with their sum in them, at an even place. -/
def fillAt (l : List Int) (m : Nat) : List Int :=
  let z := (l.set (2 * m) 0).set (2 * m + 1) 0
  (z.set (2 * m) ((65535 - chk z) / 256)).set (2 * m + 1) ((65535 - chk z) % 256)
def sums_Fill.f (l : List Int) (a : Int) : Option (List Int × Bool) :=
  if okb l ∧ l.length < 140737488355328 then (if 0 ≤ a ∧ a % 2 = 0 ∧ a + 1 < l.length then some (fillAt l (a.toNat / 2), true) else some (l, false)) else none

theorem and_one64 (a : Int) (_h0 : 0 ≤ a) : Go.bits .and .i64 a 1 = a % 2 := by
  have hm : (BitVec.ofInt 64 a &&& BitVec.ofInt 64 1).toNat = (a % 2).toNat := by
    rw [show (BitVec.ofInt 64 1) = BitVec.ofNat 64 1 from by decide, BitVec.toNat_and, BitVec.toNat_ofInt, BitVec.toNat_ofNat, Nat.and_one_is_mod]
    omega
  show IntKind.i64.wrap (((BitVec.ofInt 64 a &&& BitVec.ofInt 64 1).toNat : Nat) : Int) = a % 2
  rw [hm, IntWalk.i64_in _ (by omega)]
  omega

theorem zero_u8 (w : World) : (zeroValue 5).run Try.prog w = .ok (.int .u8 0) w := by kernel_rfl
/-- A cell of an owned row of numbers. -/
theorem own_num {k : IntKind} {e base g n cap : Nat} {ok : Nat → Prop} {w : World} {xs : List Int} (h : Kd.R (Kd.int k) e w base ok (.slice (some ⟨g, 0, none⟩) n cap) xs) (j : Nat) (hj : j < xs.length) :
    (∃ x, w.cell? ⟨g, j, none⟩ = some (.int k x)) ∧ w.frozen? ⟨g, j, none⟩ = false := by
  obtain ⟨e1, A, c, hA, hlc, hC⟩ : n = xs.length ∧ ∃ A c, (Value.slice (some ⟨g, 0, none⟩) n cap) = .slice A xs.length c ∧ xs.length ≤ c ∧ Kd.C (Kd.int k) w A xs.length xs := by
    obtain ⟨A, c, h1, h2, h3⟩ := Kd.R_reads h
    injection h1 with q1 q2 q3
    exact ⟨q2, A, c, by rw [q1, q2, q3], h2, h3⟩
  obtain ⟨inner, ho⟩ := Kd.R_own h
  injection hA with a1 a2 a3
  subst a1
  obtain ⟨ad, e2, hx⟩ := Kd.at_int hC (j : Int) (by omega) (by omega)
  injection e2 with e2
  subst e2
  rw [add_plain] at hx
  rw [e1] at ho
  exact ⟨⟨_, hx⟩, ho.frozenAt j⟩
theorem clone_some (l : List Int) (h : l.length < 140737488355328) : bytes_Clone.f l = some l := by
  unfold bytes_Clone.f
  simp only [Option.bind_some]
  rw [if_pos (by simpa using h)]
  rfl

set_option maxHeartbeats 1000000 in
set_option maxRecDepth 100000 in
theorem fill_good (A0 : Option Addr) (c0 : Nat) (l0 : List Int) (m : Nat) (w : World) (hr0 : Kd.C (Kd.int .u8) w A0 l0.length l0) (hc0 : l0.length ≤ c0) (hok : okb l0) (hl : l0.length < 140737488355328) (hm : 2 * m + 1 < l0.length) :
    Calls Try.prog 36 #[.slice A0 l0.length c0, .int .i64 (2 * (m : Int))] w fun e w' => ∃ v0_ : Value, e = .returned (.tuple #[v0_, .bool true]) ∧ Kd.R (Kd.int .u8) 5 w' w.heap.size (fun _ => True) v0_ (fillAt l0 m) ∧ Below w.heap.size w w' := by
  have b1 : decide ((2 * (m : Int)) < 0) = false := decide_eq_false (by omega)
  have b2 : (Go.bits .and .i64 (2 * (m : Int)) 1 == 1) = false := by rw [and_one64 _ (by omega)]; simp
  have b3 : decide ((l0.length : Int) - 1 ≤ 2 * (m : Int)) = false := decide_eq_false (by omega)
  have b4 : 2 * (m : Int) + 1 < l0.length := by omega
  go_enter Try.func36, Try.ntmps36
  go_wp2_with fail
  refine (bytes_Clone.calls A0 c0 l0 l0 w hr0 hc0 (clone_some l0 hl)).mono ?_
  rintro e w1 ⟨v, rfl, hR, hB⟩
  obtain ⟨inner, ho⟩ := Kd.R_own hR
  obtain ⟨g, cap, rfl, hg, hcap⟩ := ho.form (by omega)
  have hcl : l0.length ≤ cap := by
    obtain ⟨A, c, e, h1, _⟩ := Kd.R_reads hR
    injection e with _ _ e3
    omega
  have hc2 : ¬ (cap = 2 * m) := by omega
  have hc3 : 2 * m + 2 ≤ cap := by omega
  have hc4 : 2 * (m : Int) + 2 ≤ (cap : Int) := by omega
  have HR := Lib.hid hR; clear hR
  have HB := Lib.hid hB; clear hB
  have HO := Lib.hid ho; clear ho
  go_wp2_with fail
  rw [show 2 * m + 2 - 2 * m = 2 from by omega]
  have h0 := own_num HR.out (2 * m) (by omega)
  have h1 := own_num HR.out (2 * m + 1) (by omega)
  obtain ⟨⟨x0, hx0⟩, hf0⟩ := h0
  obtain ⟨⟨x1, hx1⟩, hf1⟩ := h1
  have hclr : ∀ ty, (Builtin.clear_ #[22] ty #[.slice (some ⟨g, 2 * m, none⟩) 2 (cap - 2 * m)]).run Try.prog w1 = .ok (.tuple #[]) (w1.setCells g (2 * m) (List.replicate 2 (.int .u8 0))) :=
    fun ty => Lib.run_clear_slice w1 22 5 ty (.int .u8 0) Try.underlying22 zero_u8 rfl rfl g (2 * m) 2 (cap - 2 * m) (by omega) (by
      intro j hj
      match j, hj with
      | 0, _ => rw [Nat.add_zero, hx0]; rfl
      | 1, _ => rw [hx1]; rfl) (by
      intro j hj
      match j, hj with
      | 0, _ => rw [Nat.add_zero]; exact hf0
      | 1, _ => exact hf1)
  obtain ⟨W2, hW2⟩ : ∃ W2, W2 = w1.setCells g (2 * m) (List.replicate 2 (.int .u8 0)) := ⟨_, rfl⟩
  rw [← hW2] at hclr
  obtain ⟨z, hz⟩ : ∃ z, z = (l0.set (2 * m) 0).set (2 * m + 1) 0 := ⟨_, rfl⟩
  have hzl : z.length = l0.length := by rw [hz]; simp
  have HR2 : Hid (Kd.R (Kd.int .u8) 5 W2 w.heap.size (fun _ => True) (.slice (some ⟨g, 0, none⟩) l0.length cap) z) := by
    have q1 := (Kd.R_putg HR.out ((2 * m : Nat) : Int) 0).1
    have q2 := (Kd.R_putg q1 ((2 * m + 1 : Nat) : Int) 0).1
    rw [Int.toNat_natCast, Int.toNat_natCast] at q2
    rw [hW2, hz]
    exact q2
  have HB2 : Hid (Below w.heap.size w W2) := by
    rw [hW2]
    exact (HB.out.setCell hg _).setCell hg _
  have Hz := Lib.hid hz; clear hz
  have HzL := Lib.hid hzl; clear hzl
  clear hW2 hx0 hx1 hf0 hf1 HR HB HO hcap
  have hkz : okb z := by
    rw [Hz.out]
    intro x hx
    rcases List.mem_or_eq_of_mem_set hx with h | h
    · rcases List.mem_or_eq_of_mem_set h with h | h
      · exact hok x h
      · omega
    · omega
  have hbz := wsum_bd z hkz
  have hcz : 0 ≤ 65535 - chk z ∧ 65535 - chk z ≤ 65535 := by unfold chk; split <;> omega
  obtain ⟨s, hs⟩ : ∃ s, s = 65535 - chk z := ⟨_, rfl⟩
  rw [← hs] at hcz
  obtain ⟨s0, s1⟩ := hcz
  have HSum : Hid (Calls Try.prog 32 #[.slice (some ⟨g, 0, none⟩) l0.length cap] W2 fun e w' => e = .returned (.int .u16 s) ∧ Below W2.heap.size W2 w') := by
    have hC := (Kd.R_reads' HR2.out).2.2
    have := sums_Sum.calls (some ⟨g, 0, none⟩) cap z s W2 hC (by rw [HzL.out]; omega) (by unfold sums_Sum.f; rw [if_pos ⟨hkz, by rw [HzL.out]; omega⟩, hs])
    rw [HzL.out] at this
    exact this
  have Hs := Lib.hid hs; clear hs
  clear hkz hbz hok
  go_wp2_with (simp only [hclr])
  refine HSum.out.mono ?_
  rintro e w3 ⟨rfl, hb3⟩
  have hR3 := Kd.R_below HR2.out hb3
  have g0 := own_num hR3 (2 * m) (by rw [HzL.out]; omega)
  have g1 := own_num hR3 (2 * m + 1) (by rw [HzL.out]; omega)
  obtain ⟨⟨y0, hy0⟩, hfy0⟩ := g0
  obtain ⟨⟨y1, hy1⟩, hfy1⟩ := g1
  have HR3 := Lib.hid hR3; clear hR3
  have HB3 := Lib.hid (below_step HB2.out hb3); clear hb3
  have HF : Hid (Kd.R (Kd.int .u8) 5 ((w3.setCell ⟨g, 2 * m, none⟩ (.int .u8 (s / 256))).setCell ⟨g, 2 * m + 1, none⟩ (.int .u8 (s % 256))) w.heap.size (fun _ => True) (.slice (some ⟨g, 0, none⟩) l0.length cap) (fillAt l0 m)) := by
    have q1 := (Kd.R_putg HR3.out ((2 * m : Nat) : Int) (s / 256)).1
    have q2 := (Kd.R_putg q1 ((2 * m + 1 : Nat) : Int) (s % 256)).1
    rw [Int.toNat_natCast, Int.toNat_natCast] at q2
    have e : fillAt l0 m = (z.set (2 * m) (s / 256)).set (2 * m + 1) (s % 256) := by rw [show s = 65535 - chk z from Hs.out, show z = (l0.set (2 * m) 0).set (2 * m + 1) 0 from Hz.out]; rfl
    rw [e]
    exact q2
  have HFB : Hid (Below w.heap.size w ((w3.setCell ⟨g, 2 * m, none⟩ (.int .u8 (s / 256))).setCell ⟨g, 2 * m + 1, none⟩ (.int .u8 (s % 256)))) := (HB3.out.setCell hg _).setCell hg _
  go_wp2
  go_ret2
  exact ⟨_, rfl, HF.out, HFB.out⟩
set_option maxHeartbeats 1000000 in
set_option maxRecDepth 100000 in
theorem fill_bad (A0 : Option Addr) (c0 : Nat) (l0 : List Int) (a : Int) (w : World) (hr0 : Kd.C (Kd.int .u8) w A0 l0.length l0) (hc0 : l0.length ≤ c0) (hl : l0.length < 140737488355328) (hm : ¬ (0 ≤ a ∧ a % 2 = 0 ∧ a + 1 < l0.length)) :
    Calls Try.prog 36 #[.slice A0 l0.length c0, .int .i64 a] w fun e w' => ∃ v0_ : Value, e = .returned (.tuple #[v0_, .bool false]) ∧ Kd.R (Kd.int .u8) 5 w' w.heap.size (fun _ => True) v0_ l0 ∧ Below w.heap.size w w' := by
  have HM := Lib.hid hm; clear hm
  by_cases h1 : a < 0
  · have b1 : decide (a < 0) = true := decide_eq_true h1
    go_enter Try.func36, Try.ntmps36
    go_wp2_with fail
    refine (bytes_Clone.calls A0 c0 l0 l0 w hr0 hc0 (clone_some l0 hl)).mono ?_
    rintro e w1 ⟨v, rfl, hR, hB⟩
    have HR := Lib.hid hR; clear hR
    have HB := Lib.hid hB; clear hB
    go_wp2
    go_ret2
    exact ⟨_, rfl, HR.out, HB.out⟩
  · have b1 : decide (a < 0) = false := decide_eq_false h1
    by_cases h2 : a % 2 = 1
    · have b2 : (Go.bits .and .i64 a 1 == 1) = true := by rw [and_one64 _ (by omega), h2]; rfl
      clear h2
      go_enter Try.func36, Try.ntmps36
      go_wp2_with fail
      refine (bytes_Clone.calls A0 c0 l0 l0 w hr0 hc0 (clone_some l0 hl)).mono ?_
      rintro e w1 ⟨v, rfl, hR, hB⟩
      have HR := Lib.hid hR; clear hR
      have HB := Lib.hid hB; clear hB
      go_wp2
      go_ret2
      exact ⟨_, rfl, HR.out, HB.out⟩
    · have b2 : (Go.bits .and .i64 a 1 == 1) = false := by rw [and_one64 _ (by omega)]; simp [h2]
      have b3 : decide ((l0.length : Int) - 1 ≤ a) = true := decide_eq_true (by have := HM.out; omega)
      have b4 : (l0.length : Int) - 1 ≤ a := by have := HM.out; omega
      clear h2
      go_enter Try.func36, Try.ntmps36
      go_wp2_with fail
      refine (bytes_Clone.calls A0 c0 l0 l0 w hr0 hc0 (clone_some l0 hl)).mono ?_
      rintro e w1 ⟨v, rfl, hR, hB⟩
      have HR := Lib.hid hR; clear hR
      have HB := Lib.hid hB; clear hB
      go_wp2
      go_ret2
      exact ⟨_, rfl, HR.out, HB.out⟩
theorem sums_Fill.calls (A0 : Option Addr) (c0 : Nat) (l0 : List Int) (a1 : Int) (r1 : List Int) (r2 : Bool) (w : World) (hr0 : Kd.C (Kd.int .u8) w A0 l0.length l0) (hc0 : l0.length ≤ c0) (h : sums_Fill.f l0 a1 = some (r1, r2)) :
    Calls Try.prog 36 #[.slice A0 l0.length c0, .int .i64 a1] w fun e w' => ∃ v0_ : Value, e = .returned (.tuple #[v0_, .bool r2]) ∧ Kd.R (Kd.int .u8) 5 w' w.heap.size (fun _ => True) v0_ r1 ∧ Below w.heap.size w w' := by
  unfold sums_Fill.f at h
  split at h
  · rename_i hh
    obtain ⟨hok, hl⟩ := hh
    split at h
    · rename_i hm
      have h2 := Option.some.inj h
      rw [Prod.mk.injEq] at h2
      obtain ⟨rfl, rfl⟩ := h2
      obtain ⟨m, hm1⟩ : ∃ m : Nat, a1 = 2 * (m : Int) := ⟨a1.toNat / 2, by omega⟩
      subst hm1
      rw [show (2 * (m : Int)).toNat / 2 = m from by omega]
      exact fill_good A0 c0 l0 m w hr0 hc0 hok hl (by omega)
    · rename_i hm
      have h2 := Option.some.inj h
      rw [Prod.mk.injEq] at h2
      obtain ⟨rfl, rfl⟩ := h2
      exact fill_bad A0 c0 l0 a1 w hr0 hc0 hl hm
  · exact absurd h (by simp)

end Go.Proofs.Ytcilcmbailoeaaa.KS
