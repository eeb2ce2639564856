/- A symbolic walk: arithmetic and comparisons are as the model has them. -/
import Derived.Test.YtcilcmbailoeaaaSxC
set_option linter.all false
namespace Sx
open Go
section
variable {P : Program} {ν : Nu} {N : Nat} {w : World}
theorem relAs_cst : ∀ (cs : List Value), (cs.all fun c => c.oneCell') = true → relAs ν N (cs.map cstA) cs
  | [], _ => trivial
  | c :: cs, h => by
    simp only [List.all_cons, Bool.and_eq_true] at h
    exact ⟨⟨relA_cst c, h.1⟩, relAs_cst cs h.2⟩
theorem relR_junk (v : Value) : relR ν N .junk v := trivial
theorem relR_cst (v : Value) : relR ν N (cst v) v := by
  cases v with
  | agg cs =>
    simp only [cst]
    split
    · rename_i h
      exact ⟨cs, rfl, relAs_cst _ h⟩
    · trivial
  | tuple vs => trivial
  | bool b => exact relA_cst (ν := ν) (N := N) (.bool b)
  | int k n => exact relA_cst (ν := ν) (N := N) (.int k n)
  | string s => exact relA_cst (ν := ν) (N := N) (.string s)
  | pointer a => exact relA_cst (ν := ν) (N := N) (.pointer a)
  | slice a n c => exact relA_cst (ν := ν) (N := N) (.slice a n c)
  | float k b => exact relA_cst (ν := ν) (N := N) (.float k b)
  | complex k a b => exact relA_cst (ν := ν) (N := N) (.complex k a b)
  | map r => exact relA_cst (ν := ν) (N := N) (.map r)
  | chan r => exact relA_cst (ν := ν) (N := N) (.chan r)
  | func f a b => exact relA_cst (ν := ν) (N := N) (.func f a b)
  | nilFunc => exact relA_cst (ν := ν) (N := N) .nilFunc
  | iface t v => exact relA_cst (ν := ν) (N := N) (.iface t v)
  | nilIface => exact relA_cst (ν := ν) (N := N) .nilIface
theorem relR_ev {tm : List R} {a : Act} (h : relT ν N tm a.tmps) : ∀ o : Operand, relR ν N (ev tm o) (a.eval o)
  | .tmp t => h.2 t
  | .const v => relR_cst v
  | .func f => ⟨by simp, rfl⟩
  | .global g => trivial
/-- Numbers. -/
theorem relI {k : IntKind} {n : Int} {v : Value} (h : relR ν N (.v (.one (.l (.i k n)))) v) : (lo k ≤ n ∧ n ≤ hi k) ∧ v = .int k n := h
theorem relI_mk {k : IntKind} {n : Int} (h : lo k ≤ n ∧ n ≤ hi k) : relR ν N (.v (.one (.l (.i k n)))) (.int k n) := ⟨h, rfl⟩
theorem relB_mk (b : Bool) : relR ν N (.v (.one (.l (.b b)))) (.bool b) := ⟨trivial, rfl⟩
theorem wrap_in {k : IntKind} {z : Int} (h : lo k ≤ z ∧ z ≤ hi k) : k.wrap z = z := by
  cases k <;> simp only [lo, hi] at h <;> simp only [IntKind.wrap, IntKind.bits, IntKind.signed] <;> simp <;> omega
theorem into_sound {k : IntKind} {z : Int} {r : R} (h : (into k z).Out r) : relR ν N r (.int k (k.wrap z)) := by
  cases k with
  | u8 => cases h; exact ⟨by show _ ≤ _ ∧ _ ≤ _; simp only [lo, hi]; omega, by simp [L.val, IntKind.wrap, IntKind.bits, IntKind.signed]⟩
  | u16 => cases h; exact ⟨by show _ ≤ _ ∧ _ ≤ _; simp only [lo, hi]; omega, by simp [L.val, IntKind.wrap, IntKind.bits, IntKind.signed]⟩
  | u32 => cases h; exact ⟨by show _ ≤ _ ∧ _ ≤ _; simp only [lo, hi]; omega, by simp [L.val, IntKind.wrap, IntKind.bits, IntKind.signed]⟩
  | u64 => cases h; exact ⟨by show _ ≤ _ ∧ _ ≤ _; simp only [lo, hi]; omega, by simp [L.val, IntKind.wrap, IntKind.bits, IntKind.signed]⟩
  | i8 => obtain ⟨h1, h2⟩ := h; cases h2; rw [wrap_in h1]; exact ⟨h1, rfl⟩
  | i16 => obtain ⟨h1, h2⟩ := h; cases h2; rw [wrap_in h1]; exact ⟨h1, rfl⟩
  | i32 => obtain ⟨h1, h2⟩ := h; cases h2; rw [wrap_in h1]; exact ⟨h1, rfl⟩
  | i64 => obtain ⟨h1, h2⟩ := h; cases h2; rw [wrap_in h1]; exact ⟨h1, rfl⟩
theorem wrap_range (k : IntKind) (z : Int) : lo k ≤ k.wrap z ∧ k.wrap z ≤ hi k := by
  cases k <;> simp only [lo, hi, IntKind.wrap, IntKind.bits, IntKind.signed] <;> simp <;> (try split) <;> omega
theorem conv_sound {k k' : IntKind} {z : Int} {r : R} (hz : lo k ≤ z ∧ z ≤ hi k) (h : (conv k k' z).Out r) : relR ν N r (.int k' (k'.wrap z)) := by
  unfold conv at h
  split at h
  · rename_i h1 h2
    cases h
    have h1 := of_decide_eq_true h1
    have h2 := of_decide_eq_true h2
    rw [wrap_in (k := k') ⟨by omega, by omega⟩]
    exact ⟨⟨by omega, by omega⟩, rfl⟩
  · exact into_sound h
theorem bits_range (op : BinOp) (k : IntKind) (x y : Int) : lo k ≤ bits op k x y ∧ bits op k x y ≤ hi k := by
  unfold bits
  exact wrap_range k _
theorem lo_le (k : IntKind) : lo k ≤ 0 := by cases k <;> decide
theorem hi_ge (k : IntKind) : 0 ≤ hi k := by cases k <;> decide
/-- An operation of two values, as it stands in a region. -/
abbrev bin (op : BinOp) (t : TypeId) (xo yo : Operand) (x y : Value) : Sem Value := do eqGuard op t xo yo x y; binOp op t x y
theorem arith_sound {op : BinOp} {k : IntKind} {x y : Int} {r : R} {t : TypeId} {xo yo : Operand} (hx : lo k ≤ x ∧ x ≤ hi k) (h : (arith op k x y).Out r) :
    ∃ v, relR ν N r v ∧ (bin op t xo yo (.int k x) (.int k y)).run P w = .ok v w := by
  have h0 := lo_le k
  cases op with
  | add => exact ⟨_, into_sound h, by simp [bin, go_sem, Op.intArith]⟩
  | sub => exact ⟨_, into_sound h, by simp [bin, go_sem, Op.intArith]⟩
  | mul => exact ⟨_, into_sound h, by simp [bin, go_sem, Op.intArith]⟩
  | quo =>
    obtain ⟨⟨h1, h2⟩, h3⟩ := h
    cases h3
    have e : x.tdiv y = x / y := Int.tdiv_eq_ediv_of_nonneg h1
    have b1 : 0 ≤ x / y := Int.ediv_nonneg h1 (by omega)
    have b2 : x / y ≤ x := Int.ediv_le_self _ h1
    have hy : y ≠ 0 := by omega
    refine ⟨.int k (x / y), relI_mk ⟨by omega, by omega⟩, ?_⟩
    simp only [bin, eqGuard_at_int, binOp_quo, Op.intDiv, if_neg hy, e]
    rw [wrap_in (k := k) ⟨by omega, by omega⟩]
    rfl
  | rem =>
    obtain ⟨⟨h1, h2⟩, h3⟩ := h
    cases h3
    have e : x.tmod y = x % y := Int.tmod_eq_emod_of_nonneg h1
    have b1 : 0 ≤ x % y := Int.emod_nonneg _ (by omega)
    have b2 : x % y ≤ x := by
      by_cases hl : x < y
      · rw [Int.emod_eq_of_lt h1 hl]; omega
      · have := Int.emod_lt_of_pos x h2; omega
    have hy : y ≠ 0 := by omega
    refine ⟨.int k (x % y), relI_mk ⟨by omega, by omega⟩, ?_⟩
    simp only [bin, eqGuard_at_int, binOp_rem, Op.intDiv, if_neg hy, e]
    rfl
  | and => cases h; exact ⟨_, relI_mk (bits_range ..), by simp [bin, go_sem]⟩
  | or => cases h; exact ⟨_, relI_mk (bits_range ..), by simp [bin, go_sem]⟩
  | xor => cases h; exact ⟨_, relI_mk (bits_range ..), by simp [bin, go_sem]⟩
  | andNot => cases h; exact ⟨_, relI_mk (bits_range ..), by simp [bin, go_sem]⟩
  | eql => cases h; exact ⟨_, relB_mk _, by simp only [bin, eqGuard_at_int, binOp_eql]; simp [Bool.beq_eq_decide_eq]⟩
  | neq => cases h; exact ⟨_, relB_mk _, by simp only [bin, eqGuard_at_int, binOp_neq]; simp [bne, Bool.beq_eq_decide_eq]⟩
  | lss => cases h; exact ⟨_, relB_mk _, by simp only [bin, eqGuard_at_int, binOp_lss]; rfl⟩
  | leq => cases h; exact ⟨_, relB_mk _, by simp only [bin, eqGuard_at_int, binOp_leq]; rfl⟩
  | gtr => cases h; exact ⟨_, relB_mk _, by simp only [bin, eqGuard_at_int, binOp_gtr]; rfl⟩
  | geq => cases h; exact ⟨_, relB_mk _, by simp only [bin, eqGuard_at_int, binOp_geq]; rfl⟩
  | _ => exact h.elim
theorem shift_sound {op : BinOp} {k k' : IntKind} {x y : Int} {r : R} {t : TypeId} {xo yo : Operand} (hx : lo k ≤ x ∧ x ≤ hi k) (h : (shift op k x y).Out r) :
    ∃ v, relR ν N r v ∧ (bin op t xo yo (.int k x) (.int k' y)).run P w = .ok v w := by
  cases op with
  | shl =>
    obtain ⟨h1, h2⟩ := h
    refine ⟨_, into_sound h2, ?_⟩
    simp only [bin, eqGuard_at_int, binOp_shl, Op.shift, if_neg (show ¬ y < 0 by omega)]
    rfl
  | shr =>
    obtain ⟨h1, h2⟩ := h
    cases h2
    have hp : (0 : Int) < 2 ^ (min y.toNat k.bits) := Int.pow_pos (by omega)
    have e : x.fdiv (2 ^ (min y.toNat k.bits)) = x / 2 ^ (min y.toNat k.bits) := Int.fdiv_eq_ediv_of_nonneg _ (by omega)
    refine ⟨.int k (x / 2 ^ (min y.toNat k.bits)), relI_mk ?_, ?_⟩
    · have a := lo_le k
      have b := hi_ge k
      by_cases hn : 0 ≤ x
      · have b1 : 0 ≤ x / 2 ^ (min y.toNat k.bits) := Int.ediv_nonneg hn (by omega)
        have b2 : x / 2 ^ (min y.toNat k.bits) ≤ x := Int.ediv_le_self _ hn
        exact ⟨by omega, by omega⟩
      · have b1 : x / 2 ^ (min y.toNat k.bits) < 0 := Int.ediv_neg_of_neg_of_pos (by omega) hp
        have b2 : x ≤ x / 2 ^ (min y.toNat k.bits) := by
          rw [Int.le_ediv_iff_mul_le hp]
          have : x * 2 ^ (min y.toNat k.bits) ≤ x * 1 := Int.mul_le_mul_of_nonpos_left (by omega) (by omega)
          omega
        exact ⟨by omega, by omega⟩
    · simp only [bin, eqGuard_at_int, binOp_shr, Op.shift, if_neg (show ¬ y < 0 by omega)]
      rw [← e]
      rfl
  | _ => exact h.elim
end
end Sx
