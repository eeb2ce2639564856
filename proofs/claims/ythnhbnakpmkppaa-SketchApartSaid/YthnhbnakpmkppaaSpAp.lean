/- Contracts kept: addresses, prefixes. -/
import Derived.Test.YthnhbnakpmkppaaSpAt
import Derived.ProofKit
set_option linter.all false
namespace Sp
open Go Go.Proofs Sx Go.Proofs.Ythnhbnakpmkppaa.Ma
theorem hM : Try.prog.follows .mixedOrders = true := by kernel_rfl
theorem noName : (Try.prog.funcs.all fun fn => !(fn.name == "runtime.NumGoroutine")) = true := by decide +kernel
theorem hP : Plain Try.prog := fun f fn hf => by
  have := Array.all_eq_true_iff_forall_mem.1 noName fn (Array.mem_of_getElem? hf)
  simpa using this
theorem c0_le (v6 : Bool) : c0 v6 ≤ 64 := by cases v6 <;> decide
theorem c1_le (v6 : Bool) : c1 v6 ≤ 64 := by cases v6 <;> decide
theorem clamp_le (v6 : Bool) (n : Int) : ((clamp v6 n : Nat) : Int) ≤ wid v6 := by unfold clamp wid; split <;> omega
theorem clamp0 (v6 : Bool) (n : Int) : min (clamp v6 n) 64 ≤ c0 v6 := by have := clamp_le v6 n; cases v6 <;> simp [wid, c0] at this ⊢ <;> omega
theorem clamp1 (v6 : Bool) (n : Int) : clamp v6 n - 64 ≤ c1 v6 := by have := clamp_le v6 n; cases v6 <;> simp [wid, c1] at this ⊢ <;> omega
theorem p_high : T_high := by
  intro n hn
  by_cases h : n = 0
  · subst h
    exact ⟨(), trivial, rfl, trivial⟩
  · have h1 : (decide ((↑n : Int) = 0)) = false := by simp; omega
    rw [h1]
    refine ⟨⟨by omega, by omega⟩, by omega, (), trivial, ?_, trivial⟩
    have h2 := high_val n (by omega) hn
    rw [IntKind.wrap_u64] at h2
    rw [← h2]
    congr 2
    show (2 : Int) ^ min (((64 : Int) - (n : Int)) % 18446744073709551616).toNat 64 = 2 ^ (64 - n)
    congr 1
    omega
theorem p_width : T_width := by
  intro v6 _
  cases v6 <;> exact ⟨(), trivial, rfl, trivial⟩
theorem p_ones : T_ones := by
  rintro ⟨m, v6⟩ hm
  have hm : (m : Int) ≤ wid v6 := hm
  have hw : wid v6 = 128 ∨ wid v6 = 32 := by cases v6 <;> simp [wid]
  have hc0 : ((c0 v6 : Nat) : Int) = max 0 (min (wid v6) 64) := by cases v6 <;> simp [wid, c0] <;> omega
  have hc1 : ((c1 v6 : Nat) : Int) = max 0 (min (wid v6 - 64) 64) := by cases v6 <;> simp [wid, c1] <;> omega
  refine ⟨by omega, ⟨by simp only; omega, by simp only; omega⟩, by omega, ⟨by simp only; omega, by simp only; omega⟩, c0 v6, by simp only; omega, c0_le v6, fun _ _ => ⟨min m 64, by simp only; omega, by omega, fun _ _ => ?_⟩⟩
  refine ⟨by omega, by omega, ⟨by simp only; omega, by simp only; omega⟩, by omega, ⟨by simp only; omega, by simp only; omega⟩, c1 v6, by simp only; omega, c1_le v6, fun _ _ => ⟨m - 64, by simp only; omega, by omega, fun _ _ => ⟨by omega, (), trivial, ?_, ?_, trivial⟩⟩⟩
  · exact u64_andNot_nat _ _ (topN_lt _ (c0_le v6)) (topN_lt _ (by omega))
  · exact u64_andNot_nat _ _ (topN_lt _ (c1_le v6)) (topN_lt _ (by omega))
theorem p_read : T_read := by
  rintro ⟨hi, lo, v6⟩ ⟨h1, h2⟩
  have h1 : hi < 18446744073709551616 := h1
  have h2 : lo < 18446744073709551616 := h2
  refine ⟨v6, rfl, trivial, fun _ _ => ⟨(0, v6), rfl, rfl, by cases v6 <;> decide, fun _ _ => ⟨by omega, by omega, (), trivial, ?_, ?_, trivial⟩⟩⟩
  · refine (u64_and_nat _ _ h1 (onesN_lt _ _ (c0_le v6))).trans ?_
    rw [show min (0, v6).1 64 = 0 from rfl, and_onesN hi (c0 v6) h1 (c0_le v6)]
  · refine (u64_and_nat _ _ h2 (onesN_lt _ _ (c1_le v6))).trans ?_
    rw [show (0, v6).1 - 64 = 0 from rfl, and_onesN lo (c1 v6) h2 (c1_le v6)]
theorem p_tail : T_tail := by
  rintro ⟨⟨hi, lo, v6⟩, n⟩ _
  have hc := clamp_le v6 n
  refine ⟨v6, rfl, trivial, fun _ _ => ⟨(clamp v6 n, v6), ?_, rfl, hc, fun _ _ => ⟨(), trivial, rfl, rfl, trivial⟩⟩⟩
  show max 0 (min n (wid v6)) = ((clamp v6 n : Nat) : Int)
  unfold clamp
  omega
theorem p_mask : T_mask := by
  rintro ⟨⟨hi, lo, v6⟩, n⟩ ⟨h1, h2⟩
  refine ⟨(hi, lo, v6), rfl, rfl, rfl, ⟨h1, h2⟩, fun _ _ => ⟨((hi, lo, v6), n), rfl, rfl, rfl, rfl, trivial, fun _ _ => ⟨by omega, by omega, (), trivial, ?_, ?_, rfl, trivial⟩⟩⟩
  · refine (u64_andNot_nat _ _ (keepN_lt _ _ h1) (onesN_lt _ _ (c0_le v6))).trans ?_
    exact congrArg Int.ofNat (andNot_onesN hi (c0 v6) _ h1 (c0_le v6) (clamp0 v6 n))
  · refine (u64_andNot_nat _ _ (keepN_lt _ _ h2) (onesN_lt _ _ (c1_le v6))).trans ?_
    exact congrArg Int.ofNat (andNot_onesN lo (c1 v6) _ h2 (c1_le v6) (clamp1 v6 n))
theorem clamp_clamp (v6 : Bool) (n : Int) : clamp v6 (max 0 (min n (wid v6))) = clamp v6 n := by unfold clamp; cases v6 <;> simp [wid] <;> omega
theorem p_of : T_of := by
  rintro ⟨⟨hi, lo, v6⟩, n⟩ ⟨h1, h2⟩
  refine ⟨v6, rfl, trivial, fun _ _ => ⟨((hi, lo, v6), max 0 (min n (wid v6))), rfl, rfl, rfl, rfl, ⟨h1, h2⟩, fun _ _ => ⟨(), trivial, ?_, ?_, rfl, ?_, trivial⟩⟩⟩
  · show ((keepN hi (min (clamp v6 (max 0 (min n (wid v6)))) 64) : Nat) : Int) = _; rw [clamp_clamp]; rfl
  · show ((keepN lo (clamp v6 (max 0 (min n (wid v6))) - 64) : Nat) : Int) = _; rw [clamp_clamp]; rfl
  · show max 0 (min n (wid v6)) = ((clamp v6 n : Nat) : Int)
    unfold clamp
    omega
theorem p_sane : T_sane := by
  rintro ⟨⟨hi, lo, v6⟩, n⟩ ⟨h1, h2⟩
  refine ⟨((hi, lo, v6), n), rfl, rfl, rfl, rfl, ⟨h1, h2⟩, fun _ _ => ⟨(), trivial, ?_, trivial⟩⟩
  unfold saneB ofP
  rw [Bool.eq_iff_iff]
  simp only [Bool.and_eq_true, decide_eq_true_eq, Prod.mk.injEq, Int.natCast_inj]
  simp only [and_assoc]
theorem G0 : Goods Try.prog L0 := goods_nil _
theorem g_high : Good Try.prog 173 HighS := good_of_owes hM hP G0 Try.func173 rfl (o_high ▸ p_high)
theorem G1 : Goods Try.prog L1 := goods_cons g_high G0
theorem g_width : Good Try.prog 104 WidthS := good_of_owes hM hP G0 Try.func104 rfl (o_width ▸ p_width)
theorem G2 : Goods Try.prog L2 := goods_cons g_width G1
theorem g_ones : Good Try.prog 153 OnesS := good_of_owes hM hP G2 Try.func153 rfl (o_ones ▸ p_ones)
theorem G3 : Goods Try.prog L3 := goods_cons g_ones G2
theorem g_read : Good Try.prog 124 ReadS := good_of_owes hM hP G3 Try.func124 rfl (o_read ▸ p_read)
theorem G4 : Goods Try.prog L4 := goods_cons g_read G3
theorem g_tail : Good Try.prog 143 TailS := good_of_owes hM hP G3 Try.func143 rfl (o_tail ▸ p_tail)
theorem G5 : Goods Try.prog L5 := goods_cons g_tail G4
theorem g_mask : Good Try.prog 105 MaskS := good_of_owes hM hP G5 Try.func105 rfl (o_mask ▸ p_mask)
theorem G6 : Goods Try.prog L6 := goods_cons g_mask G5
theorem g_of : Good Try.prog 57 OfS := good_of_owes hM hP G6 Try.func57 rfl (o_of ▸ p_of)
theorem G7 : Goods Try.prog L7 := goods_cons g_of G6
theorem g_sane : Good Try.prog 70 SaneS := good_of_owes hM hP G7 Try.func70 rfl (o_sane ▸ p_sane)
theorem G8 : Goods Try.prog L8 := goods_cons g_sane G7
end Sp
