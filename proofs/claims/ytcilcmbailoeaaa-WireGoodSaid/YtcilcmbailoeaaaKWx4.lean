-- Written by kprint.py, a program of this session, over the kit's print.py; functions marked HAND are our own texts.
import Derived.Test.YtcilcmbailoeaaaKWx0
import Derived.Test.YtcilcmbailoeaaaKWx2
namespace Go.Proofs.Ytcilcmbailoeaaa.KW
open Go.RowKit Go.Proofs.YtcilcmbailoeaaaW.PrintWords Go.Proofs.YtcilcmbailoeaaaW.PrintLast Go.Proofs.YtcilcmbailoeaaaW.PrintMore
attribute [local go_sem] max2_int min2_int max_two min_two max_three min_three max_four min_four   -- for this text's walks alone
set_option linter.unusedVariables false
set_option linter.unusedSimpArgs false

attribute [local go_sem high] eqA39
/-! ### addr_Width: function 103 -/
def addr_Width.f (a0 : Bool) : Option (Int) := if a0 = true then (some 128) else (some 32)
set_option maxHeartbeats 8000000 in
set_option maxRecDepth 100000 in
theorem addr_Width.calls (a0 : Bool) (r : Int) (w : World) (h : addr_Width.f a0 = some r) :
    Calls Try.prog 103 #[.bool a0] w fun e w' => e = .returned (.int .i64 r) ∧ Drawn0 w w' := by
  have H : (if a0 = true then (some 128) else (some 32)) = some r := h
  clear h
  by_cases c2 : a0 = true
  · subst c2
    have H1 : (some 128) = some r := by rw [if_pos rfl] at H; exact H
    clear H
    have H := H1
    clear H1
    obtain rfl := Option.some.inj H
    go_enter Try.func103, Try.ntmps103
    go_wp2
    go_ret
    exact ⟨by first | rfl | (simp; done) | (simp [*]; done), by repeat (first | exact Drawn0.refl _ | apply Drawn0.step)⟩
  · replace c2 := Bool.eq_false_iff.mpr c2
    subst c2
    have H1 : (some 32) = some r := by rw [if_neg (show ¬ (false = true) by decide)] at H; exact H
    clear H
    have H := H1
    clear H1
    obtain rfl := Option.some.inj H
    go_enter Try.func103, Try.ntmps103
    go_wp2
    go_ret
    exact ⟨by first | rfl | (simp; done) | (simp [*]; done), by repeat (first | exact Drawn0.refl _ | apply Drawn0.step)⟩

/-! ### HAND addr_From: function 100 -/
open Ma
def HighSaid (x : Int) (n : Nat) : Prop := ∀ W : World, Calls Try.prog 145 #[.int .i64 x] W fun e w' => e = .returned (.int .u64 ((topN n : Nat) : Int)) ∧ W = w'
theorem ret_u64 {a b : Int} (h : a = b) : Ending.returned (.int .u64 a) = .returned (.int .u64 b) := by rw [h]
theorem high_said (x : Int) (n : Nat) (h : x = n) (hn : n ≤ 64) : HighSaid x n := fun W => by
  subst h
  by_cases h0 : n = 0
  · subst h0
    go_enter Try.func145, Try.ntmps145
    go_wp2
    go_ret
    exact ⟨ret_u64 (by decide), rfl⟩
  · have hv := Lib.hid (high_val n (by omega) hn)
    have b0 : ((n : Int) == 0) = false := by simp; omega
    have hp : 0 < n := by omega
    clear h0
    go_enter Try.func145, Try.ntmps145
    go_wp2
    go_ret
    exact ⟨ret_u64 hv.out, rfl⟩


set_option maxHeartbeats 1000000 in
theorem ones_s0  (w : World) :
    Calls Try.prog 133 #[.int .i64 0, .int .i64 32] w fun e w' => e = .returned (.agg #[.int .u64 ((onesN 32 0 : Nat) : Int), .int .u64 ((onesN 0 0 : Nat) : Int)]) ∧ (w.alloc (.cells #[.int .u64 ((onesN 32 0 : Nat) : Int), .int .u64 ((onesN 0 0 : Nat) : Int)] 151)).alloc (.cells #[.int .u64 ((onesN 32 0 : Nat) : Int), .int .u64 ((onesN 0 0 : Nat) : Int)] 151) = w' := by
  have n1 : Go.bits .andNot .u64 ((topN 32 : Nat) : Int) ((topN 0 : Nat) : Int) = ((onesN 32 0 : Nat) : Int) := u64_andNot_nat _ _ (topN_lt _ (by omega)) (topN_lt _ (by omega))
  have n2 : Go.bits .andNot .u64 ((topN 0 : Nat) : Int) ((topN 0 : Nat) : Int) = ((onesN 0 0 : Nat) : Int) := u64_andNot_nat _ _ (topN_lt _ (by omega)) (topN_lt _ (by omega))
  have N1 := Lib.hid n1; clear n1
  have N2 := Lib.hid n2; clear n2
  have H1 := Lib.hid (high_said 32 32 (by omega) (by omega))
  have H2 := Lib.hid (high_said 0 0 (by omega) (by omega))
  have H3 := Lib.hid (high_said 0 0 (by omega) (by omega))
  have H4 := Lib.hid (high_said 0 0 (by omega) (by omega))
  go_enter Try.func133, Try.ntmps133
  go_wp2_with fail
  refine wp_loop_rounds 3 ?_
  rw [rounds_succ]
  go_wp2_with fail
  refine (H1.out _).mono ?_
  rintro e w1 ⟨rfl, rfl⟩
  go_wp2_with fail
  refine (H2.out _).mono ?_
  rintro e w2 ⟨rfl, rfl⟩
  go_wp2_with fail
  rw [rounds_succ]
  go_wp2_with fail
  refine (H3.out _).mono ?_
  rintro e w3 ⟨rfl, rfl⟩
  go_wp2_with fail
  refine (H4.out _).mono ?_
  rintro e w4 ⟨rfl, rfl⟩
  go_wp2_with fail
  rw [rounds_succ]
  go_wp2_with fail
  rw [N1.out]
  (try rw [N2.out])
  refine bodyPost_ret (v := .agg #[.int .u64 ((onesN 32 0 : Nat) : Int), .int .u64 ((onesN 0 0 : Nat) : Int)]) (by simp [results, Try.results133, go_sem]) rfl ⟨rfl, rfl⟩

set_option maxHeartbeats 1000000 in
theorem ones_s (a : Nat) (ha : a ≤ 32) (ha0 : 0 < a) (w : World) :
    Calls Try.prog 133 #[.int .i64 a, .int .i64 32] w fun e w' => e = .returned (.agg #[.int .u64 ((onesN 32 a : Nat) : Int), .int .u64 ((onesN 0 0 : Nat) : Int)]) ∧ (w.alloc (.cells #[.int .u64 ((onesN 32 a : Nat) : Int), .int .u64 ((onesN 0 0 : Nat) : Int)] 151)).alloc (.cells #[.int .u64 ((onesN 32 a : Nat) : Int), .int .u64 ((onesN 0 0 : Nat) : Int)] 151) = w' := by
  have n1 : Go.bits .andNot .u64 ((topN 32 : Nat) : Int) ((topN a : Nat) : Int) = ((onesN 32 a : Nat) : Int) := u64_andNot_nat _ _ (topN_lt _ (by omega)) (topN_lt _ (by omega))
  have n2 : Go.bits .andNot .u64 ((topN 0 : Nat) : Int) ((topN 0 : Nat) : Int) = ((onesN 0 0 : Nat) : Int) := u64_andNot_nat _ _ (topN_lt _ (by omega)) (topN_lt _ (by omega))
  have N1 := Lib.hid n1; clear n1
  have N2 := Lib.hid n2; clear n2
  have H1 := Lib.hid (high_said 32 32 (by omega) (by omega))
  have H2 := Lib.hid (high_said a a (by omega) (by omega))
  have H3 := Lib.hid (high_said 0 0 (by omega) (by omega))
  have H4 := Lib.hid (high_said 0 0 (by omega) (by omega))
  go_enter Try.func133, Try.ntmps133
  go_wp2_with fail
  refine wp_loop_rounds 3 ?_
  rw [rounds_succ]
  go_wp2_with fail
  refine (H1.out _).mono ?_
  rintro e w1 ⟨rfl, rfl⟩
  go_wp2_with fail
  refine (H2.out _).mono ?_
  rintro e w2 ⟨rfl, rfl⟩
  go_wp2_with fail
  rw [rounds_succ]
  go_wp2_with fail
  refine (H3.out _).mono ?_
  rintro e w3 ⟨rfl, rfl⟩
  go_wp2_with fail
  refine (H4.out _).mono ?_
  rintro e w4 ⟨rfl, rfl⟩
  go_wp2_with fail
  rw [rounds_succ]
  go_wp2_with fail
  rw [N1.out]
  (try rw [N2.out])
  refine bodyPost_ret (v := .agg #[.int .u64 ((onesN 32 a : Nat) : Int), .int .u64 ((onesN 0 0 : Nat) : Int)]) (by simp [results, Try.results133, go_sem]) rfl ⟨rfl, rfl⟩

set_option maxHeartbeats 1000000 in
theorem ones_l0  (w : World) :
    Calls Try.prog 133 #[.int .i64 0, .int .i64 128] w fun e w' => e = .returned (.agg #[.int .u64 ((onesN 64 0 : Nat) : Int), .int .u64 ((onesN 64 0 : Nat) : Int)]) ∧ (w.alloc (.cells #[.int .u64 ((onesN 64 0 : Nat) : Int), .int .u64 ((onesN 64 0 : Nat) : Int)] 151)).alloc (.cells #[.int .u64 ((onesN 64 0 : Nat) : Int), .int .u64 ((onesN 64 0 : Nat) : Int)] 151) = w' := by
  have n1 : Go.bits .andNot .u64 ((topN 64 : Nat) : Int) ((topN 0 : Nat) : Int) = ((onesN 64 0 : Nat) : Int) := u64_andNot_nat _ _ (topN_lt _ (by omega)) (topN_lt _ (by omega))
  have n2 : Go.bits .andNot .u64 ((topN 64 : Nat) : Int) ((topN 0 : Nat) : Int) = ((onesN 64 0 : Nat) : Int) := u64_andNot_nat _ _ (topN_lt _ (by omega)) (topN_lt _ (by omega))
  have N1 := Lib.hid n1; clear n1
  have N2 := Lib.hid n2; clear n2
  have H1 := Lib.hid (high_said 64 64 (by omega) (by omega))
  have H2 := Lib.hid (high_said 0 0 (by omega) (by omega))
  have H3 := Lib.hid (high_said 64 64 (by omega) (by omega))
  have H4 := Lib.hid (high_said 0 0 (by omega) (by omega))
  go_enter Try.func133, Try.ntmps133
  go_wp2_with fail
  refine wp_loop_rounds 3 ?_
  rw [rounds_succ]
  go_wp2_with fail
  refine (H1.out _).mono ?_
  rintro e w1 ⟨rfl, rfl⟩
  go_wp2_with fail
  refine (H2.out _).mono ?_
  rintro e w2 ⟨rfl, rfl⟩
  go_wp2_with fail
  rw [rounds_succ]
  go_wp2_with fail
  refine (H3.out _).mono ?_
  rintro e w3 ⟨rfl, rfl⟩
  go_wp2_with fail
  refine (H4.out _).mono ?_
  rintro e w4 ⟨rfl, rfl⟩
  go_wp2_with fail
  rw [rounds_succ]
  go_wp2_with fail
  rw [N1.out]
  (try rw [N2.out])
  refine bodyPost_ret (v := .agg #[.int .u64 ((onesN 64 0 : Nat) : Int), .int .u64 ((onesN 64 0 : Nat) : Int)]) (by simp [results, Try.results133, go_sem]) rfl ⟨rfl, rfl⟩

set_option maxHeartbeats 1000000 in
theorem ones_l (a : Nat) (ha : a ≤ 64) (ha0 : 0 < a) (w : World) :
    Calls Try.prog 133 #[.int .i64 a, .int .i64 128] w fun e w' => e = .returned (.agg #[.int .u64 ((onesN 64 a : Nat) : Int), .int .u64 ((onesN 64 0 : Nat) : Int)]) ∧ (w.alloc (.cells #[.int .u64 ((onesN 64 a : Nat) : Int), .int .u64 ((onesN 64 0 : Nat) : Int)] 151)).alloc (.cells #[.int .u64 ((onesN 64 a : Nat) : Int), .int .u64 ((onesN 64 0 : Nat) : Int)] 151) = w' := by
  have n1 : Go.bits .andNot .u64 ((topN 64 : Nat) : Int) ((topN a : Nat) : Int) = ((onesN 64 a : Nat) : Int) := u64_andNot_nat _ _ (topN_lt _ (by omega)) (topN_lt _ (by omega))
  have n2 : Go.bits .andNot .u64 ((topN 64 : Nat) : Int) ((topN 0 : Nat) : Int) = ((onesN 64 0 : Nat) : Int) := u64_andNot_nat _ _ (topN_lt _ (by omega)) (topN_lt _ (by omega))
  have N1 := Lib.hid n1; clear n1
  have N2 := Lib.hid n2; clear n2
  have H1 := Lib.hid (high_said 64 64 (by omega) (by omega))
  have H2 := Lib.hid (high_said a a (by omega) (by omega))
  have H3 := Lib.hid (high_said 64 64 (by omega) (by omega))
  have H4 := Lib.hid (high_said 0 0 (by omega) (by omega))
  go_enter Try.func133, Try.ntmps133
  go_wp2_with fail
  refine wp_loop_rounds 3 ?_
  rw [rounds_succ]
  go_wp2_with fail
  refine (H1.out _).mono ?_
  rintro e w1 ⟨rfl, rfl⟩
  go_wp2_with fail
  refine (H2.out _).mono ?_
  rintro e w2 ⟨rfl, rfl⟩
  go_wp2_with fail
  rw [rounds_succ]
  go_wp2_with fail
  refine (H3.out _).mono ?_
  rintro e w3 ⟨rfl, rfl⟩
  go_wp2_with fail
  refine (H4.out _).mono ?_
  rintro e w4 ⟨rfl, rfl⟩
  go_wp2_with fail
  rw [rounds_succ]
  go_wp2_with fail
  rw [N1.out]
  (try rw [N2.out])
  refine bodyPost_ret (v := .agg #[.int .u64 ((onesN 64 a : Nat) : Int), .int .u64 ((onesN 64 0 : Nat) : Int)]) (by simp [results, Try.results133, go_sem]) rfl ⟨rfl, rfl⟩

set_option maxHeartbeats 1000000 in
theorem ones_m (a : Nat) (ha : a ≤ 128) (ha0 : 64 < a) (w : World) :
    Calls Try.prog 133 #[.int .i64 a, .int .i64 128] w fun e w' => e = .returned (.agg #[.int .u64 ((onesN 64 64 : Nat) : Int), .int .u64 ((onesN 64 (a - 64) : Nat) : Int)]) ∧ (w.alloc (.cells #[.int .u64 ((onesN 64 64 : Nat) : Int), .int .u64 ((onesN 64 (a - 64) : Nat) : Int)] 151)).alloc (.cells #[.int .u64 ((onesN 64 64 : Nat) : Int), .int .u64 ((onesN 64 (a - 64) : Nat) : Int)] 151) = w' := by
  have n1 : Go.bits .andNot .u64 ((topN 64 : Nat) : Int) ((topN 64 : Nat) : Int) = ((onesN 64 64 : Nat) : Int) := u64_andNot_nat _ _ (topN_lt _ (by omega)) (topN_lt _ (by omega))
  have n2 : Go.bits .andNot .u64 ((topN 64 : Nat) : Int) ((topN (a - 64) : Nat) : Int) = ((onesN 64 (a - 64) : Nat) : Int) := u64_andNot_nat _ _ (topN_lt _ (by omega)) (topN_lt _ (by omega))
  have N1 := Lib.hid n1; clear n1
  have N2 := Lib.hid n2; clear n2
  have H1 := Lib.hid (high_said 64 64 (by omega) (by omega))
  have H2 := Lib.hid (high_said 64 64 (by omega) (by omega))
  have H3 := Lib.hid (high_said 64 64 (by omega) (by omega))
  have H4 := Lib.hid (high_said ((a : Int) - 64) (a - 64) (by omega) (by omega))
  go_enter Try.func133, Try.ntmps133
  go_wp2_with fail
  refine wp_loop_rounds 3 ?_
  rw [rounds_succ]
  go_wp2_with fail
  refine (H1.out _).mono ?_
  rintro e w1 ⟨rfl, rfl⟩
  go_wp2_with fail
  refine (H2.out _).mono ?_
  rintro e w2 ⟨rfl, rfl⟩
  go_wp2_with fail
  rw [rounds_succ]
  go_wp2_with fail
  refine (H3.out _).mono ?_
  rintro e w3 ⟨rfl, rfl⟩
  go_wp2_with fail
  refine (H4.out _).mono ?_
  rintro e w4 ⟨rfl, rfl⟩
  go_wp2_with fail
  rw [rounds_succ]
  go_wp2_with fail
  rw [N1.out]
  (try rw [N2.out])
  refine bodyPost_ret (v := .agg #[.int .u64 ((onesN 64 64 : Nat) : Int), .int .u64 ((onesN 64 (a - 64) : Nat) : Int)]) (by simp [results, Try.results133, go_sem]) rfl ⟨rfl, rfl⟩

/-- The digits from m on, of an address's width. -/
theorem ones_calls (v6 : Bool) (m : Nat) (hm : m ≤ if v6 = true then 128 else 32) (w : World) :
    Calls Try.prog 133 #[.int .i64 m, .int .i64 (if v6 = true then 128 else 32)] w fun e w' => e = .returned (.agg #[.int .u64 ((onesN (if v6 = true then 64 else 32) (min m 64) : Nat) : Int), .int .u64 ((onesN (if v6 = true then 64 else 0) (m - 64) : Nat) : Int)]) ∧ (w.alloc (.cells #[.int .u64 ((onesN (if v6 = true then 64 else 32) (min m 64) : Nat) : Int), .int .u64 ((onesN (if v6 = true then 64 else 0) (m - 64) : Nat) : Int)] 151)).alloc (.cells #[.int .u64 ((onesN (if v6 = true then 64 else 32) (min m 64) : Nat) : Int), .int .u64 ((onesN (if v6 = true then 64 else 0) (m - 64) : Nat) : Int)] 151) = w' := by
  cases v6 with
  | false =>
    simp only [Bool.false_eq_true, if_false] at hm ⊢
    rw [show min m 64 = m from by omega, show m - 64 = 0 from by omega]
    by_cases h0 : m = 0
    · subst h0; exact ones_s0 w
    · exact ones_s m hm (by omega) w
  | true =>
    simp only [if_true] at hm ⊢
    by_cases h0 : m = 0
    · subst h0; exact ones_l0 w
    · by_cases h1 : m ≤ 64
      · rw [show min m 64 = m from by omega, show m - 64 = 0 from by omega]
        exact ones_l m h1 (by omega) w
      · rw [show min m 64 = 64 from by omega]
        exact ones_m m hm (by omega) w

theorem width_any (v6 : Bool) (w : World) : Calls Try.prog 103 #[.bool v6] w fun e w' => e = .returned (.int .i64 (if v6 = true then 128 else 32)) ∧ w = w' := by
  cases v6
  · go_enter Try.func103, Try.ntmps103
    go_wp2
    go_ret
    exact ⟨rfl, rfl⟩
  · go_enter Try.func103, Try.ntmps103
    go_wp2
    go_ret
    exact ⟨rfl, rfl⟩
theorem idx0 (x y : Value) (w : World) : (Instr.index 151 (.agg #[x, y]) (.int .i64 0)).run Try.prog w = .ok x w := by kernel_rfl
theorem idx1 (x y : Value) (w : World) : (Instr.index 151 (.agg #[x, y]) (.int .i64 1)).run Try.prog w = .ok y w := by kernel_rfl
/-- How many digits of the first, and of the second word there are. -/
def c0 (v6 : Bool) : Nat := if v6 = true then 64 else 32
def c1 (v6 : Bool) : Nat := if v6 = true then 64 else 0
def wid (v6 : Bool) : Int := if v6 = true then 128 else 32
def WidthSaid (v6 : Bool) : Prop := ∀ W : World, Calls Try.prog 103 #[.bool v6] W fun e w' => e = .returned (.int .i64 (wid v6)) ∧ W = w'
def OnesSaid (v6 : Bool) (x : Int) (m : Nat) : Prop := ∀ W : World, Calls Try.prog 133 #[.int .i64 x, .int .i64 (wid v6)] W fun e w' => e = .returned (.agg #[.int .u64 ((onesN (c0 v6) (min m 64) : Nat) : Int), .int .u64 ((onesN (c1 v6) (m - 64) : Nat) : Int)]) ∧ (W.alloc (.cells #[.int .u64 ((onesN (c0 v6) (min m 64) : Nat) : Int), .int .u64 ((onesN (c1 v6) (m - 64) : Nat) : Int)] 151)).alloc (.cells #[.int .u64 ((onesN (c0 v6) (min m 64) : Nat) : Int), .int .u64 ((onesN (c1 v6) (m - 64) : Nat) : Int)] 151) = w'
theorem ones_said (v6 : Bool) (x : Int) (m : Nat) (hx : x = m) (hm : (m : Int) ≤ wid v6) : OnesSaid v6 x m := fun W => by
  subst hx
  exact ones_calls v6 m (by unfold wid at hm; split at hm <;> split <;> simp_all <;> omega) W
def ReadSaid (hi lo : Nat) (v6 : Bool) : Prop := ∀ W : World, Calls Try.prog 117 #[.agg #[.int .u64 hi, .int .u64 lo, .bool v6]] W fun e w' => e = .returned (.agg #[.int .u64 ((keepN hi (c0 v6) : Nat) : Int), .int .u64 ((keepN lo (c1 v6) : Nat) : Int)]) ∧ (((((W.alloc (.cells #[.int .u64 hi, .int .u64 lo, .bool v6] 37)).alloc (.cells #[.int .u64 ((keepN hi (c0 v6) : Nat) : Int), .int .u64 ((keepN lo (c1 v6) : Nat) : Int)] 151)).alloc (.cells #[.int .u64 ((keepN hi (c0 v6) : Nat) : Int), .int .u64 ((keepN lo (c1 v6) : Nat) : Int)] 151)).alloc (.cells #[.int .u64 ((onesN (c0 v6) 0 : Nat) : Int), .int .u64 ((onesN (c1 v6) 0 : Nat) : Int)] 151)).alloc (.cells #[.int .u64 ((onesN (c0 v6) 0 : Nat) : Int), .int .u64 ((onesN (c1 v6) 0 : Nat) : Int)] 151)) = w'
theorem c0_le (v6 : Bool) : c0 v6 ≤ 64 := by cases v6 <;> decide
theorem c1_le (v6 : Bool) : c1 v6 ≤ 64 := by cases v6 <;> decide
theorem blk2 {w w1 : World} (hb : Below w.heap.size w w1) {g : Nat} {o : Obj} (h : w.heap[g]? = some o) : w1.heap[g]? = some o := (hb.block g (by
  rcases Nat.lt_or_ge g w.heap.size with h1 | h1
  · exact h1
  · rw [Array.getElem?_eq_none h1] at h; cases h)).trans h
set_option maxHeartbeats 1000000 in
set_option maxRecDepth 100000 in
theorem read_said (hi lo : Nat) (v6 : Bool) (hh : hi < 18446744073709551616) (hl : lo < 18446744073709551616) : ReadSaid hi lo v6 := fun w => by
  have H1 := Lib.hid (show WidthSaid v6 from width_any v6)
  have H2 := Lib.hid (ones_said v6 0 0 rfl (by unfold wid; split <;> simp))
  have A0 := Lib.hid (u64_and_nat hi (onesN (c0 v6) 0) hh (onesN_lt _ _ (c0_le v6)))
  have A1 := Lib.hid (u64_and_nat lo (onesN (c1 v6) 0) hl (onesN_lt _ _ (c1_le v6)))
  have i0 := fun x y => idx0 x y
  have i1 := fun x y => idx1 x y
  have K0 := Lib.hid (and_onesN hi (c0 v6) hh (c0_le v6))
  have K1 := Lib.hid (and_onesN lo (c1 v6) hl (c1_le v6))
  clear hh hl
  go_enter Try.func117, Try.ntmps117
  go_wp2_with fail
  refine (H1.out _).mono ?_
  rintro e w1 ⟨rfl, rfl⟩
  go_wp2_with fail
  refine (H2.out _).mono ?_
  rintro e w2 ⟨rfl, rfl⟩
  go_wp2_with fail
  refine wp_loop_rounds 3 ?_
  rw [rounds_succ]
  go_wp2_with fail
  rw [rounds_succ]
  go_wp2_with fail
  rw [rounds_succ]
  go_wp2_with fail
  rw [A0.out, A1.out, K0.out, K1.out]
  refine bodyPost_ret (v := .agg #[.int .u64 ((keepN hi (c0 v6) : Nat) : Int), .int .u64 ((keepN lo (c1 v6) : Nat) : Int)]) (by simp [results, Try.results117, go_sem]) rfl ⟨rfl, rfl⟩

/-- So many digits as there are, at most. -/
def clamp (v6 : Bool) (n : Int) : Nat := (max 0 (min n (wid v6))).toNat
theorem clamp_le (v6 : Bool) (n : Int) : ((clamp v6 n : Nat) : Int) ≤ wid v6 := by unfold clamp wid; split <;> omega
def TailSaid (hi lo : Nat) (v6 : Bool) (n : Int) : Prop := ∀ W : World, Calls Try.prog 127 #[.agg #[.int .u64 hi, .int .u64 lo, .bool v6], .int .i64 n] W fun e w' =>
  e = .returned (.agg #[.int .u64 ((onesN (c0 v6) (min (clamp v6 n) 64) : Nat) : Int), .int .u64 ((onesN (c1 v6) (clamp v6 n - 64) : Nat) : Int)]) ∧
  ((((W.alloc (.cells #[.int .u64 hi, .int .u64 lo, .bool v6] 37)).alloc (.cells #[.int .u64 ((onesN (c0 v6) (min (clamp v6 n) 64) : Nat) : Int), .int .u64 ((onesN (c1 v6) (clamp v6 n - 64) : Nat) : Int)] 151)).alloc (.cells #[.int .u64 ((onesN (c0 v6) (min (clamp v6 n) 64) : Nat) : Int), .int .u64 ((onesN (c1 v6) (clamp v6 n - 64) : Nat) : Int)] 151)).alloc (.cells #[.int .u64 ((onesN (c0 v6) (min (clamp v6 n) 64) : Nat) : Int), .int .u64 ((onesN (c1 v6) (clamp v6 n - 64) : Nat) : Int)] 151)) = w'
set_option maxHeartbeats 1000000 in
set_option maxRecDepth 100000 in
theorem tail_said (hi lo : Nat) (v6 : Bool) (n : Int) : TailSaid hi lo v6 n := fun w => by
  have H1 := Lib.hid (show WidthSaid v6 from width_any v6)
  have hw : 0 < wid v6 := by unfold wid; split <;> omega
  obtain ⟨c, hc⟩ : ∃ c, c = clamp v6 n := ⟨_, rfl⟩
  have hc2 := clamp_le v6 n
  rw [← hc] at hc2 ⊢
  obtain ⟨W6, hW6⟩ : ∃ x, x = wid v6 := ⟨_, rfl⟩
  have HW6 := Lib.hid hW6
  rcases show n ≤ 0 ∨ (0 < n ∧ n ≤ wid v6) ∨ wid v6 < n from by omega with h | ⟨h, h'⟩ | h
  · have H2 := Lib.hid (ones_said v6 0 c (by rw [hc]; unfold clamp; omega) hc2)
    have g1 : ¬ (wid v6 < n) := by omega
    have g2 : ¬ (0 < n) := by omega
    clear hc hc2 h
    go_enter Try.func127, Try.ntmps127
    go_wp2_with fail
    refine (H1.out _).mono ?_
    rintro e w1 ⟨rfl, rfl⟩
    go_wp2_with fail
    refine (H2.out _).mono ?_
    rintro e w2 ⟨rfl, rfl⟩
    go_wp2_with fail
    refine bodyPost_ret (v := .agg #[.int .u64 ((onesN (c0 v6) (min c 64) : Nat) : Int), .int .u64 ((onesN (c1 v6) (c - 64) : Nat) : Int)]) (by simp [results, Try.results127, go_sem]) rfl ⟨rfl, rfl⟩
  · have H2 := Lib.hid (ones_said v6 n c (by rw [hc]; unfold clamp; omega) hc2)
    have g1 : ¬ (wid v6 < n) := by omega
    clear hc hc2
    go_enter Try.func127, Try.ntmps127
    go_wp2_with fail
    refine (H1.out _).mono ?_
    rintro e w1 ⟨rfl, rfl⟩
    go_wp2_with fail
    refine (H2.out _).mono ?_
    rintro e w2 ⟨rfl, rfl⟩
    go_wp2_with fail
    refine bodyPost_ret (v := .agg #[.int .u64 ((onesN (c0 v6) (min c 64) : Nat) : Int), .int .u64 ((onesN (c1 v6) (c - 64) : Nat) : Int)]) (by simp [results, Try.results127, go_sem]) rfl ⟨rfl, rfl⟩
  · have H2 := Lib.hid (ones_said v6 (wid v6) c (by rw [hc]; unfold clamp; omega) hc2)
    clear hc hc2
    go_enter Try.func127, Try.ntmps127
    go_wp2_with fail
    refine (H1.out _).mono ?_
    rintro e w1 ⟨rfl, rfl⟩
    go_wp2_with fail
    refine (H2.out _).mono ?_
    rintro e w2 ⟨rfl, rfl⟩
    go_wp2_with fail
    refine bodyPost_ret (v := .agg #[.int .u64 ((onesN (c0 v6) (min c 64) : Nat) : Int), .int .u64 ((onesN (c1 v6) (c - 64) : Nat) : Int)]) (by simp [results, Try.results127, go_sem]) rfl ⟨rfl, rfl⟩
theorem of_any (hi lo : Int) (v6 : Bool) (w : World) : Calls Try.prog 128 #[.agg #[.int .u64 hi, .int .u64 lo], .bool v6] w fun e w' => e = .returned (.agg #[.int .u64 hi, .int .u64 lo, .bool v6]) ∧ (w.alloc (.cells #[.int .u64 hi, .int .u64 lo] 151)).alloc (.cells #[.int .u64 hi, .int .u64 lo, .bool v6] 37) = w' := by
  go_enter Try.func128, Try.ntmps128
  go_wp2_with fail
  refine bodyPost_ret (v := .agg #[.int .u64 hi, .int .u64 lo, .bool v6]) (by simp [results, Try.results128, go_sem]) rfl ⟨rfl, rfl⟩

set_option maxHeartbeats 2000000 in
set_option maxRecDepth 100000 in
theorem mask_any (hi lo : Nat) (v6 : Bool) (n : Int) (w : World) (hh : hi < 18446744073709551616) (hl : lo < 18446744073709551616) :
    Calls Try.prog 88 #[.agg #[.int .u64 hi, .int .u64 lo, .bool v6], .int .i64 n] w fun e w' => e = .returned (.agg #[.int .u64 ((keepN hi (clamp v6 n) : Nat) : Int), .int .u64 ((keepN lo (clamp v6 n - 64) : Nat) : Int), .bool v6]) ∧ Below w.heap.size w w' := by
  have H1 := Lib.hid (read_said hi lo v6 hh hl)
  have H2 := Lib.hid (tail_said hi lo v6 n)
  have A0 := Lib.hid (u64_andNot_nat (keepN hi (c0 v6)) (onesN (c0 v6) (min (clamp v6 n) 64)) (keepN_lt _ _ hh) (onesN_lt _ _ (c0_le v6)))
  have A1 := Lib.hid (u64_andNot_nat (keepN lo (c1 v6)) (onesN (c1 v6) (clamp v6 n - 64)) (keepN_lt _ _ hl) (onesN_lt _ _ (c1_le v6)))
  have hc := clamp_le v6 n
  have K0 : Hid (keepN hi (c0 v6) &&& (18446744073709551615 - onesN (c0 v6) (min (clamp v6 n) 64)) = keepN hi (clamp v6 n)) := by
    have h := andNot_onesN hi (c0 v6) (min (clamp v6 n) 64) hh (c0_le v6) (by unfold wid at hc; unfold c0; split at hc <;> simp_all <;> omega)
    have h2 : keepN hi (min (clamp v6 n) 64) = keepN hi (clamp v6 n) := by
      unfold keepN
      rw [show 64 - min (clamp v6 n) 64 = 64 - clamp v6 n from by omega]
    rw [h2] at h
    exact h
  have K1 : Hid (keepN lo (c1 v6) &&& (18446744073709551615 - onesN (c1 v6) (clamp v6 n - 64)) = keepN lo (clamp v6 n - 64)) :=
    andNot_onesN lo (c1 v6) (clamp v6 n - 64) hl (c1_le v6) (by unfold wid at hc; unfold c1; split at hc <;> simp_all <;> omega)
  have i0 := fun x y => idx0 x y
  have i1 := fun x y => idx1 x y
  clear hh hl hc
  go_enter Try.func88, Try.ntmps88
  go_wp2_with fail
  refine (H1.out _).mono ?_
  rintro e w1 ⟨rfl, rfl⟩
  go_wp2_with fail
  refine (H2.out _).mono ?_
  rintro e w2 ⟨rfl, rfl⟩
  go_wp2_with fail
  refine wp_loop_rounds 3 ?_
  rw [rounds_succ]
  go_wp2_with fail
  rw [A0.out, K0.out]
  rw [rounds_succ]
  go_wp2_with fail
  rw [A1.out, K1.out]
  rw [rounds_succ]
  go_wp2_with fail
  refine (of_any _ _ _ _).mono ?_
  rintro e w3 ⟨rfl, rfl⟩
  go_wp2_with fail
  refine bodyPost_ret (v := .agg #[.int .u64 ((keepN hi (clamp v6 n) : Nat) : Int), .int .u64 ((keepN lo (clamp v6 n - 64) : Nat) : Int), .bool v6]) (by simp [results, Try.results88, go_sem]) rfl ⟨rfl, ?_⟩
  repeat (first | exact Below.refl _ _ | apply below_alloc)
/-- A word's bytes. -/
def wb (x : Nat) : List Int := [(x : Int) / 72057594037927936 % 256, (x : Int) / 281474976710656 % 256, (x : Int) / 1099511627776 % 256, (x : Int) / 4294967296 % 256, (x : Int) / 16777216 % 256, (x : Int) / 65536 % 256, (x : Int) / 256 % 256, (x : Int) % 256]
def bytesA (hi lo : Nat) (v6 : Bool) : List Int := if v6 = true then wb hi ++ wb lo else (wb hi).take 4
theorem R_block {w : World} {base g : Nat} {k : IntKind} {e : TypeId} {ok : Nat → Prop} {cs : Array Value} (xs : List Int) (hg : w.heap[g]? = some (.cells cs e (0, 0))) (hb : base ≤ g) (hc : cs.toList = xs.map (Value.int k)) (hl : xs.length ≤ maxLen) (hok : ok g) :
    Kd.R (Kd.int k) e w base ok (.slice (some ⟨g, 0, none⟩) xs.length xs.length) xs := by
  refine Kd.R_of_own (enc := Value.int k) (h1 := fun _ => rfl) ⟨by simp [encs], .inr ⟨g, xs.length, cs, rfl, hb, hg, Nat.le_refl _, hl, ?_, ?_⟩⟩ (fun j hj => ?_)
  · have := congrArg List.length hc
    simp at this
    simpa using this
  · rw [hc, Nat.mul_one, List.take_of_length_le (by simp)]
    rfl
  · have : g = j := by simpa [Value.ownBlock] using hj
    rw [← this]
    exact hok
theorem R_newest {W : World} {base g n : Nat} {k : IntKind} {e : TypeId} {ok : Nat → Prop} {cs : Array Value} (xs : List Int) (hg : g = W.heap.size) (hn : n = xs.length) (hb : base ≤ W.heap.size) (hc : cs.toList = xs.map (Value.int k)) (hl : xs.length ≤ 65536) (hok : ok g) :
    Kd.R (Kd.int k) e (W.alloc (.cells cs e)) base ok (.slice (some ⟨g, 0, none⟩) n n) xs := by
  subst hg hn
  exact R_block xs (heap_alloc_new W _) hb hc (by unfold maxLen; omega) hok
set_option maxHeartbeats 4000000 in
set_option maxRecDepth 100000 in
theorem bytes4 (hi lo : Nat) (w : World) (hh : hi < 18446744073709551616) (hl : lo < 18446744073709551616) :
    Calls Try.prog 68 #[.agg #[.int .u64 hi, .int .u64 lo, .bool false]] w fun e w' => ∃ v0_ : Value, e = .returned (v0_) ∧ Kd.R (Kd.int .u8) 5 w' w.heap.size (fun _ => True) v0_ (bytesA hi lo false) ∧ Below w.heap.size w w' := by
  have H1 := Lib.hid (read_said hi lo false hh hl)
  have H2 : Hid (∀ W : World, Calls Try.prog 103 #[.bool false] W fun e w' => e = .returned (.int .i64 32) ∧ W = w') := fun W => width_any false W
  have hmk : ∀ W : World, (Instr.makeSlice 22 (.int .i64 4) (.int .i64 4)).run Try.prog W = .ok (.slice (some ⟨W.heap.size, 0, none⟩) 4 4) (W.alloc (.cells #[.int .u8 0, .int .u8 0, .int .u8 0, .int .u8 0] 5)) := fun _ => by kernel_rfl
  have hk : Hid ([((keepN hi (c0 false) : Nat) : Int) / 72057594037927936 % 256, ((keepN hi (c0 false) : Nat) : Int) / 281474976710656 % 256, ((keepN hi (c0 false) : Nat) : Int) / 1099511627776 % 256, ((keepN hi (c0 false) : Nat) : Int) / 4294967296 % 256] = bytesA hi lo false) := by
    have e : keepN hi (c0 false) = hi / 4294967296 * 4294967296 := rfl
    show _ = [_, _, _, _]
    rw [e]
    congr 1
    · omega
    congr 1
    · omega
    congr 1
    · omega
    congr 1
    omega
  clear hh hl
  go_enter Try.func68, Try.ntmps68
  go_wp2_with fail
  refine (H1.out _).mono ?_
  rintro e w1 ⟨rfl, rfl⟩
  go_wp2_with fail
  refine (H2.out _).mono ?_
  rintro e w2 ⟨rfl, rfl⟩
  go_wp2_with fail
  refine wp_loop_rounds 5 ?_
  iterate 5 (rw [rounds_succ]; go_wp2_with fail)
  go_ret
  refine ⟨_, rfl, ?_, ?_⟩
  · rw [← hk.out]
    exact R_newest _ (by simp) rfl (by simp; omega) rfl (by simp) trivial
  · repeat (first | exact Below.refl _ _ | apply below_alloc)
set_option maxHeartbeats 8000000 in
set_option maxRecDepth 100000 in
theorem bytes16 (hi lo : Nat) (w : World) (hh : hi < 18446744073709551616) (hl : lo < 18446744073709551616) :
    Calls Try.prog 68 #[.agg #[.int .u64 hi, .int .u64 lo, .bool true]] w fun e w' => ∃ v0_ : Value, e = .returned (v0_) ∧ Kd.R (Kd.int .u8) 5 w' w.heap.size (fun _ => True) v0_ (bytesA hi lo true) ∧ Below w.heap.size w w' := by
  have H1 : Hid (∀ W : World, Calls Try.prog 117 #[.agg #[.int .u64 hi, .int .u64 lo, .bool true]] W fun e w' => e = .returned (.agg #[.int .u64 hi, .int .u64 lo]) ∧ (((((W.alloc (.cells #[.int .u64 hi, .int .u64 lo, .bool true] 37)).alloc (.cells #[.int .u64 hi, .int .u64 lo] 151)).alloc (.cells #[.int .u64 hi, .int .u64 lo] 151)).alloc (.cells #[.int .u64 (onesN 64 0 : Nat), .int .u64 (onesN 64 0 : Nat)] 151)).alloc (.cells #[.int .u64 (onesN 64 0 : Nat), .int .u64 (onesN 64 0 : Nat)] 151)) = w') := fun W => by
    have h := read_said hi lo true hh hl W
    rw [show keepN hi (c0 true) = hi from keepN_all hi 64 (Nat.le_refl _), show keepN lo (c1 true) = lo from keepN_all lo 64 (Nat.le_refl _)] at h
    exact h
  have H2 : Hid (∀ W : World, Calls Try.prog 103 #[.bool true] W fun e w' => e = .returned (.int .i64 128) ∧ W = w') := fun W => width_any true W
  have hmk : ∀ W : World, (Instr.makeSlice 22 (.int .i64 16) (.int .i64 16)).run Try.prog W = .ok (.slice (some ⟨W.heap.size, 0, none⟩) 16 16) (W.alloc (.cells #[.int .u8 0, .int .u8 0, .int .u8 0, .int .u8 0, .int .u8 0, .int .u8 0, .int .u8 0, .int .u8 0, .int .u8 0, .int .u8 0, .int .u8 0, .int .u8 0, .int .u8 0, .int .u8 0, .int .u8 0, .int .u8 0] 5)) := fun _ => by kernel_rfl
  clear hh hl
  go_enter Try.func68, Try.ntmps68
  go_wp2_with fail
  refine (H1.out _).mono ?_
  rintro e w1 ⟨rfl, rfl⟩
  go_wp2_with fail
  refine (H2.out _).mono ?_
  rintro e w2 ⟨rfl, rfl⟩
  go_wp2_with fail
  refine wp_loop_rounds 17 ?_
  iterate 17 (rw [rounds_succ]; go_wp2_with fail)
  go_ret
  refine ⟨_, rfl, ?_, ?_⟩
  · exact R_newest (bytesA hi lo true) (by simp) rfl (by simp; omega) rfl (by show 16 ≤ 65536; omega) trivial
  · repeat (first | exact Below.refl _ _ | apply below_alloc)

set_option maxHeartbeats 8000000 in
set_option maxRecDepth 100000 in
theorem from4 (A : Option Addr) (c : Nat) (b0 b1 b2 b3 : Nat) (w : World) (hr : Kd.C (Kd.int .u8) w A 4 [(b0 : Int), (b1 : Int), (b2 : Int), (b3 : Int)]) (h0 : b0 < 256) (h1 : b1 < 256) (h2 : b2 < 256) (h3 : b3 < 256) :
    Calls Try.prog 100 #[.slice A 4 c] w fun e w' => e = .returned (.tuple #[.agg #[.int .u64 ((b0 * 72057594037927936 + b1 * 281474976710656 + b2 * 1099511627776 + b3 * 4294967296 : Nat) : Int), .int .u64 ((0 : Nat) : Int), .bool false], .int .i64 0]) ∧ Below w.heap.size w w' := by
  obtain ⟨ad, rfl, hx0⟩ := Kd.at_int hr 0 (by omega) (by omega)
  obtain ⟨ad1, e1, hx1⟩ := Kd.at_int hr 1 (by omega) (by omega)
  obtain rfl : ad = ad1 := by injection e1
  obtain ⟨ad2, e2, hx2⟩ := Kd.at_int hr 2 (by omega) (by omega)
  obtain rfl : ad = ad2 := by injection e2
  obtain ⟨ad3, e3, hx3⟩ := Kd.at_int hr 3 (by omega) (by omega)
  obtain rfl : ad = ad3 := by injection e3
  clear hr e1 e2 e3
  simp [rd] at hx0 hx1 hx2 hx3
  rw [Addr.add_zero'] at hx0
  simp only [Go.Addr.add, ↓reduceIte, Nat.reduceEqDiff] at hx1 hx2 hx3
  have y0 : ∀ o1 o2, ((w.alloc o1).alloc o2).cell? ad = some (.int .u8 b0) := fun o1 o2 => Lib.cell?_alloc_some o2 (Lib.cell?_alloc_some o1 hx0)
  have y1 : ∀ o1 o2, ((w.alloc o1).alloc o2).cell? ⟨ad.block, ad.off + 1, none⟩ = some (.int .u8 b1) := fun o1 o2 => Lib.cell?_alloc_some o2 (Lib.cell?_alloc_some o1 hx1)
  have y2 : ∀ o1 o2, ((w.alloc o1).alloc o2).cell? ⟨ad.block, ad.off + 2, none⟩ = some (.int .u8 b2) := fun o1 o2 => Lib.cell?_alloc_some o2 (Lib.cell?_alloc_some o1 hx2)
  have y3 : ∀ o1 o2, ((w.alloc o1).alloc o2).cell? ⟨ad.block, ad.off + 3, none⟩ = some (.int .u8 b3) := fun o1 o2 => Lib.cell?_alloc_some o2 (Lib.cell?_alloc_some o1 hx3)
  clear hx0 hx1 hx2 hx3
  have O1 := Lib.hid (or_4 b0 b1 b2 b3 h0 h1 h2 h3)
  go_enter Try.func100, Try.ntmps100
  go_wp2_with fail
  refine wp_loop_rounds 5 ?_
  iterate 5 (rw [rounds_succ]; go_wp2_with fail)
  rw [O1.out]
  refine (of_any _ _ _ _).mono ?_
  rintro e w3 ⟨rfl, rfl⟩
  go_wp2_with fail
  refine bodyPost_ret (v := .tuple #[.agg #[.int .u64 ((b0 * 72057594037927936 + b1 * 281474976710656 + b2 * 1099511627776 + b3 * 4294967296 : Nat) : Int), .int .u64 ((0 : Nat) : Int), .bool false], .int .i64 0]) (by simp [results, Try.results100, go_sem]) rfl ⟨rfl, ?_⟩
  repeat (first | exact Below.refl _ _ | apply below_alloc)

set_option maxHeartbeats 8000000 in
set_option maxRecDepth 100000 in
theorem from16 (A : Option Addr) (c : Nat) (b0 b1 b2 b3 b4 b5 b6 b7 b8 b9 b10 b11 b12 b13 b14 b15 : Nat) (w : World) (hr : Kd.C (Kd.int .u8) w A 16 [(b0 : Int), (b1 : Int), (b2 : Int), (b3 : Int), (b4 : Int), (b5 : Int), (b6 : Int), (b7 : Int), (b8 : Int), (b9 : Int), (b10 : Int), (b11 : Int), (b12 : Int), (b13 : Int), (b14 : Int), (b15 : Int)]) (h0 : b0 < 256) (h1 : b1 < 256) (h2 : b2 < 256) (h3 : b3 < 256) (h4 : b4 < 256) (h5 : b5 < 256) (h6 : b6 < 256) (h7 : b7 < 256) (h8 : b8 < 256) (h9 : b9 < 256) (h10 : b10 < 256) (h11 : b11 < 256) (h12 : b12 < 256) (h13 : b13 < 256) (h14 : b14 < 256) (h15 : b15 < 256) :
    Calls Try.prog 100 #[.slice A 16 c] w fun e w' => e = .returned (.tuple #[.agg #[.int .u64 ((b0 * 72057594037927936 + b1 * 281474976710656 + b2 * 1099511627776 + b3 * 4294967296 + b4 * 16777216 + b5 * 65536 + b6 * 256 + b7 : Nat) : Int), .int .u64 ((b8 * 72057594037927936 + b9 * 281474976710656 + b10 * 1099511627776 + b11 * 4294967296 + b12 * 16777216 + b13 * 65536 + b14 * 256 + b15 : Nat) : Int), .bool true], .int .i64 0]) ∧ Below w.heap.size w w' := by
  obtain ⟨ad, rfl, hx0⟩ := Kd.at_int hr 0 (by omega) (by omega)
  obtain ⟨ad1, e1, hx1⟩ := Kd.at_int hr 1 (by omega) (by omega)
  obtain rfl : ad = ad1 := by injection e1
  obtain ⟨ad2, e2, hx2⟩ := Kd.at_int hr 2 (by omega) (by omega)
  obtain rfl : ad = ad2 := by injection e2
  obtain ⟨ad3, e3, hx3⟩ := Kd.at_int hr 3 (by omega) (by omega)
  obtain rfl : ad = ad3 := by injection e3
  obtain ⟨ad4, e4, hx4⟩ := Kd.at_int hr 4 (by omega) (by omega)
  obtain rfl : ad = ad4 := by injection e4
  obtain ⟨ad5, e5, hx5⟩ := Kd.at_int hr 5 (by omega) (by omega)
  obtain rfl : ad = ad5 := by injection e5
  obtain ⟨ad6, e6, hx6⟩ := Kd.at_int hr 6 (by omega) (by omega)
  obtain rfl : ad = ad6 := by injection e6
  obtain ⟨ad7, e7, hx7⟩ := Kd.at_int hr 7 (by omega) (by omega)
  obtain rfl : ad = ad7 := by injection e7
  obtain ⟨ad8, e8, hx8⟩ := Kd.at_int hr 8 (by omega) (by omega)
  obtain rfl : ad = ad8 := by injection e8
  obtain ⟨ad9, e9, hx9⟩ := Kd.at_int hr 9 (by omega) (by omega)
  obtain rfl : ad = ad9 := by injection e9
  obtain ⟨ad10, e10, hx10⟩ := Kd.at_int hr 10 (by omega) (by omega)
  obtain rfl : ad = ad10 := by injection e10
  obtain ⟨ad11, e11, hx11⟩ := Kd.at_int hr 11 (by omega) (by omega)
  obtain rfl : ad = ad11 := by injection e11
  obtain ⟨ad12, e12, hx12⟩ := Kd.at_int hr 12 (by omega) (by omega)
  obtain rfl : ad = ad12 := by injection e12
  obtain ⟨ad13, e13, hx13⟩ := Kd.at_int hr 13 (by omega) (by omega)
  obtain rfl : ad = ad13 := by injection e13
  obtain ⟨ad14, e14, hx14⟩ := Kd.at_int hr 14 (by omega) (by omega)
  obtain rfl : ad = ad14 := by injection e14
  obtain ⟨ad15, e15, hx15⟩ := Kd.at_int hr 15 (by omega) (by omega)
  obtain rfl : ad = ad15 := by injection e15
  clear hr e1 e2 e3 e4 e5 e6 e7 e8 e9 e10 e11 e12 e13 e14 e15
  simp [rd] at hx0 hx1 hx2 hx3 hx4 hx5 hx6 hx7 hx8 hx9 hx10 hx11 hx12 hx13 hx14 hx15
  rw [Addr.add_zero'] at hx0
  simp only [Go.Addr.add, ↓reduceIte, Nat.reduceEqDiff] at hx1 hx2 hx3 hx4 hx5 hx6 hx7 hx8 hx9 hx10 hx11 hx12 hx13 hx14 hx15
  have y0 : ∀ o1 o2, ((w.alloc o1).alloc o2).cell? ad = some (.int .u8 b0) := fun o1 o2 => Lib.cell?_alloc_some o2 (Lib.cell?_alloc_some o1 hx0)
  have y1 : ∀ o1 o2, ((w.alloc o1).alloc o2).cell? ⟨ad.block, ad.off + 1, none⟩ = some (.int .u8 b1) := fun o1 o2 => Lib.cell?_alloc_some o2 (Lib.cell?_alloc_some o1 hx1)
  have y2 : ∀ o1 o2, ((w.alloc o1).alloc o2).cell? ⟨ad.block, ad.off + 2, none⟩ = some (.int .u8 b2) := fun o1 o2 => Lib.cell?_alloc_some o2 (Lib.cell?_alloc_some o1 hx2)
  have y3 : ∀ o1 o2, ((w.alloc o1).alloc o2).cell? ⟨ad.block, ad.off + 3, none⟩ = some (.int .u8 b3) := fun o1 o2 => Lib.cell?_alloc_some o2 (Lib.cell?_alloc_some o1 hx3)
  have y4 : ∀ o1 o2, ((w.alloc o1).alloc o2).cell? ⟨ad.block, ad.off + 4, none⟩ = some (.int .u8 b4) := fun o1 o2 => Lib.cell?_alloc_some o2 (Lib.cell?_alloc_some o1 hx4)
  have y5 : ∀ o1 o2, ((w.alloc o1).alloc o2).cell? ⟨ad.block, ad.off + 5, none⟩ = some (.int .u8 b5) := fun o1 o2 => Lib.cell?_alloc_some o2 (Lib.cell?_alloc_some o1 hx5)
  have y6 : ∀ o1 o2, ((w.alloc o1).alloc o2).cell? ⟨ad.block, ad.off + 6, none⟩ = some (.int .u8 b6) := fun o1 o2 => Lib.cell?_alloc_some o2 (Lib.cell?_alloc_some o1 hx6)
  have y7 : ∀ o1 o2, ((w.alloc o1).alloc o2).cell? ⟨ad.block, ad.off + 7, none⟩ = some (.int .u8 b7) := fun o1 o2 => Lib.cell?_alloc_some o2 (Lib.cell?_alloc_some o1 hx7)
  have y8 : ∀ o1 o2, ((w.alloc o1).alloc o2).cell? ⟨ad.block, ad.off + 8, none⟩ = some (.int .u8 b8) := fun o1 o2 => Lib.cell?_alloc_some o2 (Lib.cell?_alloc_some o1 hx8)
  have y9 : ∀ o1 o2, ((w.alloc o1).alloc o2).cell? ⟨ad.block, ad.off + 9, none⟩ = some (.int .u8 b9) := fun o1 o2 => Lib.cell?_alloc_some o2 (Lib.cell?_alloc_some o1 hx9)
  have y10 : ∀ o1 o2, ((w.alloc o1).alloc o2).cell? ⟨ad.block, ad.off + 10, none⟩ = some (.int .u8 b10) := fun o1 o2 => Lib.cell?_alloc_some o2 (Lib.cell?_alloc_some o1 hx10)
  have y11 : ∀ o1 o2, ((w.alloc o1).alloc o2).cell? ⟨ad.block, ad.off + 11, none⟩ = some (.int .u8 b11) := fun o1 o2 => Lib.cell?_alloc_some o2 (Lib.cell?_alloc_some o1 hx11)
  have y12 : ∀ o1 o2, ((w.alloc o1).alloc o2).cell? ⟨ad.block, ad.off + 12, none⟩ = some (.int .u8 b12) := fun o1 o2 => Lib.cell?_alloc_some o2 (Lib.cell?_alloc_some o1 hx12)
  have y13 : ∀ o1 o2, ((w.alloc o1).alloc o2).cell? ⟨ad.block, ad.off + 13, none⟩ = some (.int .u8 b13) := fun o1 o2 => Lib.cell?_alloc_some o2 (Lib.cell?_alloc_some o1 hx13)
  have y14 : ∀ o1 o2, ((w.alloc o1).alloc o2).cell? ⟨ad.block, ad.off + 14, none⟩ = some (.int .u8 b14) := fun o1 o2 => Lib.cell?_alloc_some o2 (Lib.cell?_alloc_some o1 hx14)
  have y15 : ∀ o1 o2, ((w.alloc o1).alloc o2).cell? ⟨ad.block, ad.off + 15, none⟩ = some (.int .u8 b15) := fun o1 o2 => Lib.cell?_alloc_some o2 (Lib.cell?_alloc_some o1 hx15)
  clear hx0 hx1 hx2 hx3 hx4 hx5 hx6 hx7 hx8 hx9 hx10 hx11 hx12 hx13 hx14 hx15
  have O1 := Lib.hid (or_8 b0 b1 b2 b3 b4 b5 b6 b7 h0 h1 h2 h3 h4 h5 h6 h7)
  have O2 := Lib.hid (or_8 b8 b9 b10 b11 b12 b13 b14 b15 h8 h9 h10 h11 h12 h13 h14 h15)
  go_enter Try.func100, Try.ntmps100
  go_wp2_with fail
  refine wp_loop_rounds 17 ?_
  iterate 17 (rw [rounds_succ]; go_wp2_with fail)
  rw [O1.out]
  rw [O2.out]
  refine (of_any _ _ _ _).mono ?_
  rintro e w3 ⟨rfl, rfl⟩
  go_wp2_with fail
  refine bodyPost_ret (v := .tuple #[.agg #[.int .u64 ((b0 * 72057594037927936 + b1 * 281474976710656 + b2 * 1099511627776 + b3 * 4294967296 + b4 * 16777216 + b5 * 65536 + b6 * 256 + b7 : Nat) : Int), .int .u64 ((b8 * 72057594037927936 + b9 * 281474976710656 + b10 * 1099511627776 + b11 * 4294967296 + b12 * 16777216 + b13 * 65536 + b14 * 256 + b15 : Nat) : Int), .bool true], .int .i64 0]) (by simp [results, Try.results100, go_sem]) rfl ⟨rfl, ?_⟩
  repeat (first | exact Below.refl _ _ | apply below_alloc)

set_option maxRecDepth 100000 in
theorem from_no (A : Option Addr) (n c : Nat) (w : World) (h4 : n ≠ 4) (h16 : n ≠ 16) :
    Calls Try.prog 100 #[.slice A n c] w fun e w' => e = .returned (.tuple #[.agg #[.int .u64 0, .int .u64 0, .bool false], .int .i64 4]) ∧ Below w.heap.size w w' := by
  have b1 : ((n : Int) == 16) = false := by simp; omega
  have b2 : ((n : Int) != 4) = true := by simp; omega
  clear h4 h16
  go_enter Try.func100, Try.ntmps100
  go_wp2_with fail
  refine bodyPost_ret (v := .tuple #[.agg #[.int .u64 0, .int .u64 0, .bool false], .int .i64 4]) (by simp [results, Try.results100, go_sem]) rfl ⟨rfl, ?_⟩
  repeat (first | exact Below.refl _ _ | apply below_alloc)

/-- A number of sixty-four digits. -/
def ok64 (x : Int) : Prop := 0 ≤ x ∧ x < 18446744073709551616
instance (x : Int) : Decidable (ok64 x) := inferInstanceAs (Decidable (0 ≤ x ∧ x < 18446744073709551616))
/-- Eight bytes as a word. -/
def jw (l : List Int) : Int := rd l 0 * 72057594037927936 + rd l 1 * 281474976710656 + rd l 2 * 1099511627776 + rd l 3 * 4294967296 + rd l 4 * 16777216 + rd l 5 * 65536 + rd l 6 * 256 + rd l 7
def okby (l : List Int) : Prop := ∀ x ∈ l, 0 ≤ x ∧ x ≤ 255
instance (l : List Int) : Decidable (okby l) := inferInstanceAs (Decidable (∀ x ∈ l, 0 ≤ x ∧ x ≤ 255))
/-- The first n digits of an address's words. -/
def addr_Mask.f (a0_0 a0_1 : Int) (a0_2 : Bool) (a1 : Int) : Option (Int × Int × Bool) :=
  if ok64 a0_0 ∧ ok64 a0_1 then some (((keepN a0_0.toNat (clamp a0_2 a1) : Nat) : Int), ((keepN a0_1.toNat (clamp a0_2 a1 - 64) : Nat) : Int), a0_2) else none
def addr_Bytes.f (a0_0 a0_1 : Int) (a0_2 : Bool) : Option (List Int) :=
  if ok64 a0_0 ∧ ok64 a0_1 then some (bytesA a0_0.toNat a0_1.toNat a0_2) else none
def addr_From.f (l : List Int) : Option (Int × Int × Bool × Int) :=
  if okby l then (if l.length = 4 then some (jw l, 0, false, 0) else if l.length = 16 then some (jw (l.take 8), jw (l.drop 8), true, 0) else some (0, 0, false, 4)) else none

theorem addr_Mask.calls (a0_0 : Int) (a0_1 : Int) (a0_2 : Bool) (a1 : Int) (r1 : Int) (r2 : Int) (r3 : Bool) (w : World) (h : addr_Mask.f a0_0 a0_1 a0_2 a1 = some (r1, r2, r3)) :
    Calls Try.prog 88 #[.agg #[.int .u64 a0_0, .int .u64 a0_1, .bool a0_2], .int .i64 a1] w fun e w' => e = .returned (.agg #[.int .u64 r1, .int .u64 r2, .bool r3]) ∧ Below w.heap.size w w' := by
  unfold addr_Mask.f at h
  split at h
  · rename_i hh
    obtain ⟨⟨h1, h2⟩, h3, h4⟩ := hh
    have h5 := Option.some.inj h
    simp only [Prod.mk.injEq] at h5
    obtain ⟨rfl, rfl, rfl⟩ := h5
    have := mask_any a0_0.toNat a0_1.toNat a0_2 a1 w (by omega) (by omega)
    rw [Int.toNat_of_nonneg h1, Int.toNat_of_nonneg h3] at this
    exact this
  · exact absurd h (by simp)
theorem addr_Bytes.calls (a0_0 : Int) (a0_1 : Int) (a0_2 : Bool) (r : List Int) (w : World) (h : addr_Bytes.f a0_0 a0_1 a0_2 = some r) :
    Calls Try.prog 68 #[.agg #[.int .u64 a0_0, .int .u64 a0_1, .bool a0_2]] w fun e w' => ∃ v0_ : Value, e = .returned (v0_) ∧ Kd.R (Kd.int .u8) 5 w' w.heap.size (fun _ => True) v0_ r ∧ Below w.heap.size w w' := by
  unfold addr_Bytes.f at h
  split at h
  · rename_i hh
    obtain ⟨⟨h1, h2⟩, h3, h4⟩ := hh
    obtain rfl := Option.some.inj h
    cases a0_2 with
    | false =>
      have := bytes4 a0_0.toNat a0_1.toNat w (by omega) (by omega)
      rw [Int.toNat_of_nonneg h1, Int.toNat_of_nonneg h3] at this
      exact this
    | true =>
      have := bytes16 a0_0.toNat a0_1.toNat w (by omega) (by omega)
      rw [Int.toNat_of_nonneg h1, Int.toNat_of_nonneg h3] at this
      exact this
  · exact absurd h (by simp)
theorem nat_of (x : Int) (h : 0 ≤ x ∧ x ≤ 255) : ∃ b : Nat, x = (b : Int) ∧ b < 256 := ⟨x.toNat, by omega, by omega⟩
theorem from_l4 (l : List Int) (hl : l.length = 4) (hk : okby l) : ∃ b0 b1 b2 b3 : Nat, l = [(b0 : Int), (b1 : Int), (b2 : Int), (b3 : Int)] ∧ b0 < 256 ∧ b1 < 256 ∧ b2 < 256 ∧ b3 < 256 := by
  match l, hl, hk with
  | [x0, x1, x2, x3], _, hk =>
    obtain ⟨b0, rfl, h0⟩ := nat_of x0 (hk _ (by simp))
    obtain ⟨b1, rfl, h1⟩ := nat_of x1 (hk _ (by simp))
    obtain ⟨b2, rfl, h2⟩ := nat_of x2 (hk _ (by simp))
    obtain ⟨b3, rfl, h3⟩ := nat_of x3 (hk _ (by simp))
    exact ⟨b0, b1, b2, b3, rfl, h0, h1, h2, h3⟩
theorem from_l16 (l : List Int) (hl : l.length = 16) (hk : okby l) : ∃ b0 b1 b2 b3 b4 b5 b6 b7 b8 b9 b10 b11 b12 b13 b14 b15 : Nat, l = [(b0 : Int), (b1 : Int), (b2 : Int), (b3 : Int), (b4 : Int), (b5 : Int), (b6 : Int), (b7 : Int), (b8 : Int), (b9 : Int), (b10 : Int), (b11 : Int), (b12 : Int), (b13 : Int), (b14 : Int), (b15 : Int)] ∧ b0 < 256 ∧ b1 < 256 ∧ b2 < 256 ∧ b3 < 256 ∧ b4 < 256 ∧ b5 < 256 ∧ b6 < 256 ∧ b7 < 256 ∧ b8 < 256 ∧ b9 < 256 ∧ b10 < 256 ∧ b11 < 256 ∧ b12 < 256 ∧ b13 < 256 ∧ b14 < 256 ∧ b15 < 256 := by
  match l, hl, hk with
  | [x0, x1, x2, x3, x4, x5, x6, x7, x8, x9, x10, x11, x12, x13, x14, x15], _, hk =>
    obtain ⟨b0, rfl, h0⟩ := nat_of x0 (hk _ (by simp))
    obtain ⟨b1, rfl, h1⟩ := nat_of x1 (hk _ (by simp))
    obtain ⟨b2, rfl, h2⟩ := nat_of x2 (hk _ (by simp))
    obtain ⟨b3, rfl, h3⟩ := nat_of x3 (hk _ (by simp))
    obtain ⟨b4, rfl, h4⟩ := nat_of x4 (hk _ (by simp))
    obtain ⟨b5, rfl, h5⟩ := nat_of x5 (hk _ (by simp))
    obtain ⟨b6, rfl, h6⟩ := nat_of x6 (hk _ (by simp))
    obtain ⟨b7, rfl, h7⟩ := nat_of x7 (hk _ (by simp))
    obtain ⟨b8, rfl, h8⟩ := nat_of x8 (hk _ (by simp))
    obtain ⟨b9, rfl, h9⟩ := nat_of x9 (hk _ (by simp))
    obtain ⟨b10, rfl, h10⟩ := nat_of x10 (hk _ (by simp))
    obtain ⟨b11, rfl, h11⟩ := nat_of x11 (hk _ (by simp))
    obtain ⟨b12, rfl, h12⟩ := nat_of x12 (hk _ (by simp))
    obtain ⟨b13, rfl, h13⟩ := nat_of x13 (hk _ (by simp))
    obtain ⟨b14, rfl, h14⟩ := nat_of x14 (hk _ (by simp))
    obtain ⟨b15, rfl, h15⟩ := nat_of x15 (hk _ (by simp))
    exact ⟨b0, b1, b2, b3, b4, b5, b6, b7, b8, b9, b10, b11, b12, b13, b14, b15, rfl, h0, h1, h2, h3, h4, h5, h6, h7, h8, h9, h10, h11, h12, h13, h14, h15⟩

theorem addr_From.calls (A0 : Option Addr) (c0 : Nat) (l0 : List Int) (r1 : Int) (r2 : Int) (r3 : Bool) (r4 : Int) (w : World) (hr0 : Kd.C (Kd.int .u8) w A0 l0.length l0) (hc0 : l0.length ≤ c0) (h : addr_From.f l0 = some (r1, r2, r3, r4)) :
    Calls Try.prog 100 #[.slice A0 l0.length c0] w fun e w' => e = .returned (.tuple #[.agg #[.int .u64 r1, .int .u64 r2, .bool r3], .int .i64 r4]) ∧ Below w.heap.size w w' := by
  unfold addr_From.f at h
  split at h
  · rename_i hk
    split at h
    · rename_i h4
      have h5 := Option.some.inj h
      simp only [Prod.mk.injEq] at h5
      obtain ⟨rfl, rfl, rfl, rfl⟩ := h5
      obtain ⟨b0, b1, b2, b3, rfl, q0, q1, q2, q3⟩ := from_l4 l0 h4 hk
      have := from4 A0 c0 b0 b1 b2 b3 w hr0 q0 q1 q2 q3
      refine this.mono ?_
      rintro e w' ⟨rfl, hb⟩
      refine ⟨?_, hb⟩
      have : jw [(b0 : Int), (b1 : Int), (b2 : Int), (b3 : Int)] = ((b0 * 72057594037927936 + b1 * 281474976710656 + b2 * 1099511627776 + b3 * 4294967296 : Nat) : Int) := by
        simp only [jw, rd, Int.reduceToNat, List.getD_cons_zero, List.getD_cons_succ, List.getD_nil]
        omega
      rw [this]
      rfl
    · rename_i h4
      split at h
      · rename_i h16
        have h5 := Option.some.inj h
        simp only [Prod.mk.injEq] at h5
        obtain ⟨rfl, rfl, rfl, rfl⟩ := h5
        obtain ⟨b0, b1, b2, b3, b4, b5, b6, b7, b8, b9, b10, b11, b12, b13, b14, b15, rfl, q0, q1, q2, q3, q4, q5, q6, q7, q8, q9, q10, q11, q12, q13, q14, q15⟩ := from_l16 l0 h16 hk
        have := from16 A0 c0 b0 b1 b2 b3 b4 b5 b6 b7 b8 b9 b10 b11 b12 b13 b14 b15 w hr0 q0 q1 q2 q3 q4 q5 q6 q7 q8 q9 q10 q11 q12 q13 q14 q15
        refine this.mono ?_
        rintro e w' ⟨rfl, hb⟩
        refine ⟨?_, hb⟩
        have e1 : jw ([(b0 : Int), (b1 : Int), (b2 : Int), (b3 : Int), (b4 : Int), (b5 : Int), (b6 : Int), (b7 : Int), (b8 : Int), (b9 : Int), (b10 : Int), (b11 : Int), (b12 : Int), (b13 : Int), (b14 : Int), (b15 : Int)].take 8) = ((b0 * 72057594037927936 + b1 * 281474976710656 + b2 * 1099511627776 + b3 * 4294967296 + b4 * 16777216 + b5 * 65536 + b6 * 256 + b7 : Nat) : Int) := by
          simp only [List.take_succ_cons, List.take_zero, jw, rd, Int.reduceToNat, List.getD_cons_zero, List.getD_cons_succ, List.getD_nil]
          omega
        have e2 : jw ([(b0 : Int), (b1 : Int), (b2 : Int), (b3 : Int), (b4 : Int), (b5 : Int), (b6 : Int), (b7 : Int), (b8 : Int), (b9 : Int), (b10 : Int), (b11 : Int), (b12 : Int), (b13 : Int), (b14 : Int), (b15 : Int)].drop 8) = ((b8 * 72057594037927936 + b9 * 281474976710656 + b10 * 1099511627776 + b11 * 4294967296 + b12 * 16777216 + b13 * 65536 + b14 * 256 + b15 : Nat) : Int) := by
          simp only [List.drop_succ_cons, List.drop_zero, jw, rd, Int.reduceToNat, List.getD_cons_zero, List.getD_cons_succ, List.getD_nil]
          omega
        rw [e1, e2]
      · rename_i h16
        have h5 := Option.some.inj h
        simp only [Prod.mk.injEq] at h5
        obtain ⟨rfl, rfl, rfl, rfl⟩ := h5
        exact from_no A0 l0.length c0 w h4 h16
  · exact absurd h (by simp)

/-! ### HAND addr_Mask: function 88 -/

/-! ### prefix_Of: function 101 -/
def prefix_Of.f (a0_0 : Int) (a0_1 : Int) (a0_2 : Bool) (a1 : Int) : Option (Int × Int × Bool × Int) := (addr_Width.f a0_2).bind fun t103 => ((addr_Mask.f a0_0 a0_1 a0_2 (mx 0 (mn a1 t103))).bind fun bt104 => (some (bt104.1, bt104.2.1, bt104.2.2, mx 0 (mn a1 t103))))
set_option maxHeartbeats 8000000 in
set_option maxRecDepth 100000 in
theorem prefix_Of.calls (a0_0 : Int) (a0_1 : Int) (a0_2 : Bool) (a1 : Int) (r1 : Int) (r2 : Int) (r3 : Bool) (r4 : Int) (w : World) (h : prefix_Of.f a0_0 a0_1 a0_2 a1 = some (r1, r2, r3, r4)) :
    Calls Try.prog 101 #[.agg #[.int .u64 a0_0, .int .u64 a0_1, .bool a0_2], .int .i64 a1] w fun e w' => e = .returned (.agg #[.int .u64 r1, .int .u64 r2, .bool r3, .int .i64 r4]) ∧ Below w.heap.size w w' := by
  have hu37 := Try.underlying37
  have hu39 := Try.underlying39
  have HB := Aside0.mk (Below.refl w.heap.size w)
  have H : ((addr_Width.f a0_2).bind fun t103 => ((addr_Mask.f a0_0 a0_1 a0_2 (mx 0 (mn a1 t103))).bind fun bt104 => (some (bt104.1, bt104.2.1, bt104.2.2, mx 0 (mn a1 t103))))) = some (r1, r2, r3, r4) := h
  clear h
  replace H := Option.bind_eq_some_iff.mp H
  obtain ⟨t103, A30, H⟩ := H
  replace H : ((addr_Mask.f a0_0 a0_1 a0_2 (mx 0 (mn a1 t103))).bind fun bt104 => (some (bt104.1, bt104.2.1, bt104.2.2, mx 0 (mn a1 t103)))) = some (r1, r2, r3, r4) := H
  have A3 := Aside0.mk A30
  clear A30
  obtain ⟨ji4, hji4⟩ : ∃ j_ : Int, (mn a1 t103) = j_ := ⟨_, rfl⟩
  replace H : ((addr_Mask.f a0_0 a0_1 a0_2 (mx 0 (ji4))).bind fun bt104 => (some (bt104.1, bt104.2.1, bt104.2.2, mx 0 (ji4)))) = some (r1, r2, r3, r4) := by first | (rw [hji4] at H; exact H) | (simp only [hji4] at H ⊢; exact H)
  (try rw [hji4] at A3)
  have hji4_ : (if t103 < a1 then t103 else a1) = ji4 := hji4
  obtain ⟨ji5, hji5⟩ : ∃ j_ : Int, (mx 0 (ji4)) = j_ := ⟨_, rfl⟩
  replace H : ((addr_Mask.f a0_0 a0_1 a0_2 (ji5)).bind fun bt104 => (some (bt104.1, bt104.2.1, bt104.2.2, ji5))) = some (r1, r2, r3, r4) := by first | (rw [hji5] at H; exact H) | (simp only [hji5] at H ⊢; exact H)
  (try rw [hji5] at A3)
  have hji5_ : (if 0 < (ji4) then (ji4) else 0) = ji5 := hji5
  replace H := Option.bind_eq_some_iff.mp H
  obtain ⟨⟨t104, t105, t106⟩, A60, H⟩ := H
  replace H : (some (t104, t105, t106, ji5)) = some (r1, r2, r3, r4) := H
  have A6 := Aside0.mk A60
  clear A60
  simp only [Option.some.injEq, Prod.mk.injEq] at H
  obtain ⟨rfl, rfl, rfl, rfl⟩ := H
  go_enter Try.func101, Try.ntmps101
  go_wp2_with (first | ((with_reducible refine gate_dst (N := 2) rfl ?_); refine box_event ?hg (N := 2) ?hd (cs := #[.int .u64 a0_0, .int .u64 a0_1, .bool a0_2]) (t := 37) ?hr ?_; (case hd => rfl); (case hg => rfl); (case hr => first | (go_simp; done) | (go_simp; rfl)); intro gb101 hg w7 hbox hb; have n0_ := Aside0.mk (below_step (by repeat (first | (with_reducible first | exact HB.out | apply below_alloc | apply pw_below_drewN | apply below_drew1) | exact HB.out)) hb); have n1_ := Aside0.mk (hbox); have n2_ := Aside0.mk ((by rw [hg]; exact (below_size (by repeat (first | (with_reducible first | exact HB.out | apply below_alloc | apply pw_below_drewN | apply below_drew1) | exact HB.out))) : w.heap.size ≤ gb101)); have n3_ := Aside0.mk ((by rw [hg]; exact (below_size (by repeat (first | (with_reducible first | exact HB.out | apply below_alloc | apply pw_below_drewN | apply below_drew1) | exact HB.out))) : w.heap.size ≤ gb101)); clear HB; have HB := n0_; have BK101 := n1_; have GW101 := n2_; have GE101 := n3_; clear n0_ n1_ n2_ n3_; clear hb hbox hg) | ((with_reducible refine gate_dst (N := 4) rfl ?_); refine box_event ?hg (N := 4) ?hd (cs := #[.int .u64 0, .int .u64 0, .bool false, .int .i64 0]) (t := 39) ?hr ?_; (case hd => rfl); (case hg => rfl); (case hr => first | (go_simp; done) | (go_simp; rfl)); intro gb102 hg w8 hbox hb; have n0_ := Aside0.mk (blk_below (g := gb101) (o := .cells #[.int .u64 a0_0, .int .u64 a0_1, .bool a0_2] 37 (0, 0)) (by (with_reducible repeat (first | refine blk_drewN ?_ _ | refine blk_drew ?_ | refine blk_alloc ?_ _)); exact BK101.out) hb); have n1_ := Aside0.mk (below_step (by repeat (first | (with_reducible first | exact HB.out | apply below_alloc | apply pw_below_drewN | apply below_drew1 | refine below_set ?_ GE101.out) | exact HB.out)) hb); have n2_ := Aside0.mk (hbox); have n3_ := Aside0.mk ((by rw [hg]; exact (below_size (by repeat (first | (with_reducible first | exact HB.out | apply below_alloc | apply pw_below_drewN | apply below_drew1 | refine below_set ?_ GE101.out) | exact HB.out))) : w.heap.size ≤ gb102)); have n4_ := Aside0.mk ((by rw [hg]; exact (below_size (by repeat (first | (with_reducible first | exact HB.out | apply below_alloc | apply pw_below_drewN | apply below_drew1 | refine below_set ?_ GE101.out) | exact HB.out))) : w.heap.size ≤ gb102)); have n5_ := Aside0.mk ((by rw [hg]; exact Nat.ne_of_lt (blk_lt (g := gb101) (o := .cells #[.int .u64 a0_0, .int .u64 a0_1, .bool a0_2] 37 (0, 0)) (by (with_reducible repeat (first | refine blk_drewN ?_ _ | refine blk_drew ?_ | refine blk_alloc ?_ _)); exact BK101.out)) : gb101 ≠ gb102)); have n6_ := Aside0.mk ((by rw [hg]; exact Nat.ne_of_gt (blk_lt (g := gb101) (o := .cells #[.int .u64 a0_0, .int .u64 a0_1, .bool a0_2] 37 (0, 0)) (by (with_reducible repeat (first | refine blk_drewN ?_ _ | refine blk_drew ?_ | refine blk_alloc ?_ _)); exact BK101.out)) : gb102 ≠ gb101)); clear BK101; clear HB; have BK101 := n0_; have HB := n1_; have BK102 := n2_; have GW102 := n3_; have GE102 := n4_; have NB101_102 := n5_; have NB102_101 := n6_; clear n0_ n1_ n2_ n3_ n4_ n5_ n6_; clear hb hbox hg; have hnb9 := NB101_102.out; have hnc9 := NB102_101.out; have hcz10_0 : w8.cell? ⟨gb101, 0, none⟩ = some (.int .u64 a0_0) := (blk_cell BK101.out 0).trans rfl; have hcz10_1 : w8.cell? ⟨gb101, 1, none⟩ = some (.int .u64 a0_1) := (blk_cell BK101.out 1).trans rfl; have hcz10_2 : w8.cell? ⟨gb101, 2, none⟩ = some (.bool a0_2) := (blk_cell BK101.out 2).trans rfl; have hfz10_0 := blk_frozen BK101.out 0; have hfz10_1 := blk_frozen BK101.out 1; have hfz10_2 := blk_frozen BK101.out 2) | ((with_reducible refine gate_callee (f := 103) rfl ?_); refine goesL_ (some 8) rfl rfl Try.func103 (by kernel_rfl) rfl #[.bool a0_2] rfl (by (try simp only [List.map_toArray, List.map_cons, List.map_nil]); first | done | rfl | (simp only [List.length_drop, List.length_take]; rfl)) ?_; (with_reducible refine (addr_Width.calls a0_2 t103 _ A3.out).mono ?_); rintro e w' ⟨rfl, ⟨nd, rfl⟩⟩; refine ⟨_, rfl, ?_⟩; (try (rw [drewN_self w8]; generalize hq_ : World.drewN w8 _ = w8; have n0_ : Aside0 (w8.heap[gb101]? = some (.cells #[.int .u64 a0_0, .int .u64 a0_1, .bool a0_2] 37 (0, 0))) := ⟨by rw [← hq_]; exact (by (with_reducible repeat (first | refine blk_drewN ?_ _ | refine blk_drew ?_ | refine blk_alloc ?_ _)); exact BK101.out)⟩; have n1_ : Aside0 (w8.heap[gb102]? = some (.cells #[.int .u64 0, .int .u64 0, .bool false, .int .i64 0] 39 (0, 0))) := ⟨by rw [← hq_]; exact (by (with_reducible repeat (first | refine blk_drewN ?_ _ | refine blk_drew ?_ | refine blk_alloc ?_ _)); exact BK102.out)⟩; have n2_ : Aside0 (Below w.heap.size w w8) := ⟨by rw [← hq_]; exact (by repeat (first | (with_reducible first | exact HB.out | apply below_alloc | apply pw_below_drewN | apply below_drew1 | refine below_set ?_ GE101.out | refine below_set ?_ GE102.out) | exact HB.out))⟩; clear BK101 BK102 HB hq_; have BK101 := n0_; have BK102 := n1_; have HB := n2_; clear n0_ n1_ n2_)); have hcz11_0 : w8.cell? ⟨gb101, 0, none⟩ = some (.int .u64 a0_0) := (blk_cell BK101.out 0).trans rfl; have hcz11_1 : w8.cell? ⟨gb101, 1, none⟩ = some (.int .u64 a0_1) := (blk_cell BK101.out 1).trans rfl; have hcz11_2 : w8.cell? ⟨gb101, 2, none⟩ = some (.bool a0_2) := (blk_cell BK101.out 2).trans rfl; have hfz11_0 := blk_frozen BK101.out 0; have hfz11_1 := blk_frozen BK101.out 1; have hfz11_2 := blk_frozen BK101.out 2; have hcz12_0 : w8.cell? ⟨gb102, 0, none⟩ = some (.int .u64 0) := (blk_cell BK102.out 0).trans rfl; have hcz12_1 : w8.cell? ⟨gb102, 1, none⟩ = some (.int .u64 0) := (blk_cell BK102.out 1).trans rfl; have hcz12_2 : w8.cell? ⟨gb102, 2, none⟩ = some (.bool false) := (blk_cell BK102.out 2).trans rfl; have hcz12_3 : w8.cell? ⟨gb102, 3, none⟩ = some (.int .i64 0) := (blk_cell BK102.out 3).trans rfl; have hfz12_0 := blk_frozen BK102.out 0; have hfz12_1 := blk_frozen BK102.out 1; have hfz12_2 := blk_frozen BK102.out 2; have hfz12_3 := blk_frozen BK102.out 3) | ((with_reducible refine gate_callee (f := 88) rfl ?_); refine goesL_ (some 13) rfl rfl Try.func88 (by kernel_rfl) rfl #[.agg #[.int .u64 a0_0, .int .u64 a0_1, .bool a0_2], .int .i64 ji5] rfl (by (try simp only [List.map_toArray, List.map_cons, List.map_nil]); first | done | (simp only [hji5]; rfl) | rfl | (simp only [List.length_drop, List.length_take]; rfl)) ?_; (with_reducible refine (addr_Mask.calls a0_0 a0_1 a0_2 ji5 t104 t105 t106 _ A6.out).mono ?_); rintro e w13 ⟨rfl, hb⟩; refine ⟨_, rfl, ?_⟩; have n0_ := Aside0.mk (blk_below (g := gb101) (o := .cells #[.int .u64 a0_0, .int .u64 a0_1, .bool a0_2] 37 (0, 0)) (by (with_reducible repeat (first | refine blk_drewN ?_ _ | refine blk_drew ?_ | refine blk_alloc ?_ _)); exact BK101.out) hb); have n1_ := Aside0.mk (blk_below (g := gb102) (o := .cells #[.int .u64 0, .int .u64 0, .bool false, .int .i64 0] 39 (0, 0)) (by (with_reducible repeat (first | refine blk_drewN ?_ _ | refine blk_drew ?_ | refine blk_alloc ?_ _)); exact BK102.out) hb); have n2_ := Aside0.mk (below_step (by repeat (first | (with_reducible first | exact HB.out | apply below_alloc | apply pw_below_drewN | apply below_drew1 | refine below_set ?_ GE101.out | refine below_set ?_ GE102.out) | exact HB.out)) hb); clear BK101; clear BK102; clear HB; have BK101 := n0_; have BK102 := n1_; have HB := n2_; clear n0_ n1_ n2_; (try clear hb); (try clear hb2); (try clear hk); (try clear hi); have hcz14_0 : w13.cell? ⟨gb102, 0, none⟩ = some (.int .u64 0) := (blk_cell BK102.out 0).trans rfl; have hcz14_1 : w13.cell? ⟨gb102, 1, none⟩ = some (.int .u64 0) := (blk_cell BK102.out 1).trans rfl; have hcz14_2 : w13.cell? ⟨gb102, 2, none⟩ = some (.bool false) := (blk_cell BK102.out 2).trans rfl; have hcz14_3 : w13.cell? ⟨gb102, 3, none⟩ = some (.int .i64 0) := (blk_cell BK102.out 3).trans rfl; have hfz14_0 := blk_frozen BK102.out 0; have hfz14_1 := blk_frozen BK102.out 1; have hfz14_2 := blk_frozen BK102.out 2; have hfz14_3 := blk_frozen BK102.out 3))
  refine bodyPost_ret (results_cell_row rfl _ _ gb102 39 #[.int .u64 t104, .int .u64 t105, .bool t106, .int .i64 ji5] (0, 0) _ rfl (by (with_reducible repeat (first | refine blk_drewN ?_ _ | refine blk_drew ?_ | refine blk_alloc ?_ _)); refine blk_put (cs := #[.int .u64 t104, .int .u64 t105, .bool t106, .int .i64 0]) ?_ 3 _ rfl; (with_reducible repeat (first | refine blk_drewN ?_ _ | refine blk_drew ?_ | refine blk_alloc ?_ _)); refine blk_put (cs := #[.int .u64 t104, .int .u64 t105, .bool false, .int .i64 0]) ?_ 2 _ rfl; (with_reducible repeat (first | refine blk_drewN ?_ _ | refine blk_drew ?_ | refine blk_alloc ?_ _)); refine blk_put (cs := #[.int .u64 t104, .int .u64 0, .bool false, .int .i64 0]) ?_ 1 _ rfl; (with_reducible repeat (first | refine blk_drewN ?_ _ | refine blk_drew ?_ | refine blk_alloc ?_ _)); refine blk_put (cs := #[.int .u64 0, .int .u64 0, .bool false, .int .i64 0]) ?_ 0 _ rfl; (with_reducible repeat (first | refine blk_drewN ?_ _ | refine blk_drew ?_ | refine blk_alloc ?_ _)); exact BK102.out) Try.underlying39 rfl (by kernel_rfl)) rfl ?_
  exact ⟨by first | rfl | (simp [errW_none, errW_some] <;> rfl) | (simp only [← hji4, ← hji5]; first | rfl | (simp [errW_none, errW_some] <;> rfl)) | (simp [*, errW_none, errW_some] <;> rfl), by repeat (first | (with_reducible first | exact HB.out | apply below_alloc | apply pw_below_drewN | apply below_drew1 | refine below_set ?_ GE101.out | refine below_set ?_ GE102.out) | exact HB.out)⟩

/-! ### prefix_Sane: function 47 -/
def prefix_Sane.f (a0_0 : Int) (a0_1 : Int) (a0_2 : Bool) (a0_3 : Int) : Option (Bool) := (prefix_Of.f a0_0 a0_1 a0_2 a0_3).bind fun bt108 => (some ((a0_0 == bt108.1 && (a0_1 == bt108.2.1 && (a0_2 == bt108.2.2.1))) && (a0_3 == bt108.2.2.2)))
def prefix_Sane.T1 : Bool × List (List Nat × List Nat) := (true, [([], []), ([], []), ([1], [1]), ([], []), ([3], [3]), ([2, 4], [2, 4]), ([0, 5], [0, 5]), ([6, 5, 0, 1, 2, 3, 4, 5, 6], [6])])
def prefix_Sane.B1 : List Nat := [0, 0, 2, 0, 8, 30, 63, 127]
theorem prefix_Sane.tab1 : rtab .any (opsOf Try.f47 1) = prefix_Sane.T1 := by kernel_rfl
theorem prefix_Sane.bits1 : waitsOk prefix_Sane.T1.2 prefix_Sane.B1 = true := by kernel_rfl
set_option maxHeartbeats 8000000 in
set_option maxRecDepth 100000 in
theorem prefix_Sane.calls (a0_0 : Int) (a0_1 : Int) (a0_2 : Bool) (a0_3 : Int) (r : Bool) (w : World) (h : prefix_Sane.f a0_0 a0_1 a0_2 a0_3 = some r) :
    Calls Try.prog 47 #[.agg #[.int .u64 a0_0, .int .u64 a0_1, .bool a0_2, .int .i64 a0_3]] w fun e w' => e = .returned (.bool r) ∧ Below w.heap.size w w' := by
  have hu39 := Try.underlying39
  have hu37 := Try.underlying37
  have HB := Aside0.mk (Below.refl w.heap.size w)
  have H : ((prefix_Of.f a0_0 a0_1 a0_2 a0_3).bind fun bt108 => (some ((a0_0 == bt108.1 && (a0_1 == bt108.2.1 && (a0_2 == bt108.2.2.1))) && (a0_3 == bt108.2.2.2)))) = some r := h
  clear h
  replace H := Option.bind_eq_some_iff.mp H
  obtain ⟨⟨t108, t109, t110, t111⟩, A20, H⟩ := H
  replace H : (some ((a0_0 == t108 && (a0_1 == t109 && (a0_2 == t110))) && (a0_3 == t111))) = some r := H
  have A2 := Aside0.mk A20
  clear A20
  obtain rfl := Option.some.inj H
  go_enter Try.func47, Try.ntmps47
  try go_wp2_with (first | ((with_reducible refine gate_dst (N := 1) rfl ?_); refine box_event ?hg (N := 1) ?hd (cs := #[.int .u64 a0_0, .int .u64 a0_1, .bool a0_2, .int .i64 a0_3]) (t := 39) ?hr ?_; (case hd => rfl); (case hg => rfl); (case hr => first | (go_simp; done) | (go_simp; rfl)); intro gb107 hg w3 hbox hb; have n0_ := Aside0.mk (below_step (by repeat (first | (with_reducible first | exact HB.out | apply below_alloc | apply pw_below_drewN | apply below_drew1) | exact HB.out)) hb); have n1_ := Aside0.mk (hbox); have n2_ := Aside0.mk ((by rw [hg]; exact (below_size (by repeat (first | (with_reducible first | exact HB.out | apply below_alloc | apply pw_below_drewN | apply below_drew1) | exact HB.out))) : w.heap.size ≤ gb107)); have n3_ := Aside0.mk ((by rw [hg]; exact (below_size (by repeat (first | (with_reducible first | exact HB.out | apply below_alloc | apply pw_below_drewN | apply below_drew1) | exact HB.out))) : w.heap.size ≤ gb107)); clear HB; have HB := n0_; have BK107 := n1_; have GW107 := n2_; have GE107 := n3_; clear n0_ n1_ n2_ n3_; clear hb hbox hg))
  have n0_ := Aside0.mk (blk_drew BK107.out)
  have n1_ := Aside0.mk (below_drew1 HB.out)
  clear BK107
  clear HB
  have BK107 := n0_
  have HB := n1_
  clear n0_ n1_
  refine start_ (n := 8) (S := fun w' => w'.cell? ⟨gb107, 0, none⟩ = some (.int .u64 a0_0) ∧ w'.cell? ⟨gb107, 1, none⟩ = some (.int .u64 a0_1) ∧ w'.cell? ⟨gb107, 2, none⟩ = some (.bool a0_2) ∧ w'.cell? ⟨gb107, 3, none⟩ = some (.int .i64 a0_3)) (ds := []) #[false, false, false, false, false, false, false, false] (by kernel_rfl) rfl rfl ⟨(blk_cell BK107.out 0).trans rfl, (blk_cell BK107.out 1).trans rfl, (blk_cell BK107.out 2).trans rfl, (blk_cell BK107.out 3).trans rfl⟩ (fun hHeld => ?_); refine with_tabW prefix_Sane.tab1 prefix_Sane.bits1 (fun HT_ HW_ => ?_)
  generalize w3.drew = w4 at BK107 HB hHeld ⊢
  refine pure_ (i := 1) (N := some 4) (v := ?_) (a' := ?_) #[false, true, false, false, false, false, false, false] rfl rfl (any_of HT_.out (by kernel_rfl)) (fun _ _ _ h => h) (Or.inl ⟨by rfl, ?_⟩) ?_ ?_
  rotate_left
  · intro w'
    go_simp
    with_reducible rfl
  rotate_left
  · simp only [Act.put, List.setIfInBounds_toArray, List.set_cons_zero, List.set_cons_succ, i64_w, i32_w]
    rfl
  refine pure_ (i := 3) (N := some 6) (v := ?_) (a' := ?_) #[false, true, false, true, false, false, false, false] rfl rfl (any_of HT_.out (by kernel_rfl)) (fun _ _ _ h => h) (Or.inl ⟨by rfl, ?_⟩) ?_ ?_
  rotate_left
  · intro w'
    go_simp
    with_reducible rfl
  rotate_left
  · simp only [Act.put, List.setIfInBounds_toArray, List.set_cons_zero, List.set_cons_succ, i64_w, i32_w]
    rfl
  refine take_ (i := 0) (N := some 3) (v := ?_) (a' := ?_) #[true, true, false, true, false, false, false, false] rfl rfl (take_ofW HT_.out HW_.out (by kernel_rfl)) (fun _ _ _ h => h) (Or.inl ⟨by rfl, ?_⟩) hHeld ?_ ?_
  rotate_left
  · rintro w' ⟨s0, s1, s2, s3⟩
    go_simp
    with_reducible rfl
  rotate_left
  · simp only [Act.put, List.setIfInBounds_toArray, List.set_cons_zero, List.set_cons_succ, i64_w, i32_w]
    rfl
  refine take_ (i := 2) (N := some 5) (v := ?_) (a' := ?_) #[true, true, true, true, false, false, false, false] rfl rfl (take_ofW HT_.out HW_.out (by kernel_rfl)) (fun _ _ _ h => h) (Or.inl ⟨by rfl, ?_⟩) hHeld ?_ ?_
  rotate_left
  · rintro w' ⟨s0, s1, s2, s3⟩
    go_simp
    with_reducible rfl
  rotate_left
  · simp only [Act.put, List.setIfInBounds_toArray, List.set_cons_zero, List.set_cons_succ, i64_w, i32_w]
    rfl
  refine take_ (i := 4) (N := some 7) (v := ?_) (a' := ?_) #[true, true, true, true, true, false, false, false] rfl rfl (take_ofW HT_.out HW_.out (by kernel_rfl)) (fun _ _ _ h => h) (Or.inl ⟨by rfl, ?_⟩) hHeld ?_ ?_
  rotate_left
  · rintro w' ⟨s0, s1, s2, s3⟩
    go_simp
    with_reducible rfl
  rotate_left
  · simp only [Act.put, List.setIfInBounds_toArray, List.set_cons_zero, List.set_cons_succ, i64_w, i32_w]
    rfl
  refine one_ (i := 5) (N := some 8) #[true, true, true, true, true, true, false, false] rfl rfl (one_of HT_.out (by kernel_rfl)) (by decide) (fun K hK => ?_)
  refine goes_ Try.func101 (by kernel_rfl) rfl #[.agg #[.int .u64 a0_0, .int .u64 a0_1, .bool a0_2], .int .i64 a0_3] (by rfl) rfl rfl (by (try simp only [List.map_toArray, List.map_cons, List.map_nil]); first | done | rfl | (simp only [List.length_drop, List.length_take]; rfl)) ?_
  with_reducible refine (prefix_Of.calls a0_0 a0_1 a0_2 a0_3 t108 t109 t110 t111 _ A2.out).mono ?_
  rintro e w5 ⟨rfl, hb⟩
  refine ⟨_, rfl, ?_⟩
  have n0_ := Aside0.mk (blk_below (g := gb107) (o := .cells #[.int .u64 a0_0, .int .u64 a0_1, .bool a0_2, .int .i64 a0_3] 39 (0, 0)) (by (with_reducible repeat (first | refine blk_drewN ?_ _ | refine blk_drew ?_ | refine blk_alloc ?_ _)); exact BK107.out) hb)
  have n1_ := Aside0.mk (below_step (by repeat (first | (with_reducible first | exact HB.out | apply below_alloc | apply pw_below_drewN | apply below_drew1 | refine below_set ?_ GE107.out) | exact HB.out)) hb)
  clear BK107
  clear HB
  have BK107 := n0_
  have HB := n1_
  clear n0_ n1_
  (try clear hb)
  (try clear hb2)
  (try clear hk)
  (try clear hi)
  refine hK.out _ _ ⟨(blk_cell BK107.out 0).trans rfl, (blk_cell BK107.out 1).trans rfl, (blk_cell BK107.out 2).trans rfl, (blk_cell BK107.out 3).trans rfl⟩ (fun hHeld => ?_)
  clear hK K
  refine norm_ (a' := ?_) ?_ ?_
  rotate_left
  · show Act.put _ (some 8) _ = _
    simp only [Act.put, List.setIfInBounds_toArray, List.set_cons_zero, List.set_cons_succ, i64_w, i32_w]
    rfl
  refine pure_ (i := 6) (N := some 9) (v := ?_) (a' := ?_) #[true, true, true, true, true, true, true, false] rfl rfl (any_of HT_.out (by kernel_rfl)) (fun _ _ _ h => h) (Or.inl ⟨by rfl, ?_⟩) ?_ ?_
  rotate_left
  · intro w'
    go_simp
    with_reducible rfl
  rotate_left
  · simp only [Act.put, List.setIfInBounds_toArray, List.set_cons_zero, List.set_cons_succ, i64_w, i32_w]
    rfl
  refine pure_ (i := 7) (N := some 2) (v := ?_) (a' := ?_) #[true, true, true, true, true, true, true, true] rfl rfl (any_of HT_.out (by kernel_rfl)) (fun _ _ _ h => h) (Or.inl ⟨by rfl, ?_⟩) ?_ ?_
  rotate_left
  · intro w'
    go_simp
    with_reducible rfl
  rotate_left
  · simp only [Act.put, List.setIfInBounds_toArray, List.set_cons_zero, List.set_cons_succ, i64_w, i32_w]
    rfl
  refine done_ (done_of HT_.out (by kernel_rfl)) ?_
  try go_wp2
  go_ret
  exact ⟨by first | rfl | (simp [errW_none, errW_some] <;> rfl) | (simp [*, errW_none, errW_some] <;> rfl), by repeat (first | (with_reducible first | exact HB.out | apply below_alloc | apply pw_below_drewN | apply below_drew1 | refine below_set ?_ GE107.out) | exact HB.out)⟩

/-! ### wire_long: function 104 -/
def wire_long.f (a0 : Int) : Option (Int) := some (wrap64 (Int.tdiv (wrap64 ((wrap64 (a0 + 8)) - 1)) 8))
set_option maxHeartbeats 8000000 in
set_option maxRecDepth 100000 in
theorem wire_long.calls (a0 : Int) (r : Int) (w : World) (h : wire_long.f a0 = some r) :
    Calls Try.prog 104 #[.int .i64 a0] w fun e w' => e = .returned (.int .i64 r) ∧ Drawn0 w w' := by
  have H : (some (wrap64 (Int.tdiv (wrap64 ((wrap64 (a0 + 8)) - 1)) 8))) = some r := h
  clear h
  obtain rfl := Option.some.inj H
  go_enter Try.func104, Try.ntmps104
  go_wp2
  go_ret
  exact ⟨by first | rfl | (simp; done) | (simp [*]; done), by repeat (first | exact Drawn0.refl _ | apply Drawn0.step)⟩

end Go.Proofs.Ytcilcmbailoeaaa.KW
