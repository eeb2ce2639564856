import Derived.ProofKit
import Derived.Test.YthnhbnakpmkppaaGreatMgTableGoes5
section
set_option linter.all false
namespace Sp
open Go Go.Proofs Sx Go.Proofs.YthnhbnakpmkppaaGreat.Ma
theorem hM : Tryz.prog.follows .mixedOrders = true := by kernel_rfl
theorem noName : (Tryz.prog.funcs.all fun fn => !(fn.name == "runtime.NumGoroutine")) = true := by decide +kernel
theorem hP : Plain Tryz.prog := fun f fn hf => by
  have := Array.all_eq_true_iff_forall_mem.1 noName fn (Array.mem_of_getElem? hf)
  simpa using this
theorem c0_le (v6 : Bool) : c0 v6 ≤ 64 := by cases v6 <;> decide
theorem c1_le (v6 : Bool) : c1 v6 ≤ 64 := by cases v6 <;> decide
theorem clamp_le (v6 : Bool) (n : Int) : ((clamp v6 n : Nat) : Int) ≤ wid v6 := by unfold clamp wid; split <;> omega
theorem clamp0 (v6 : Bool) (n : Int) : min (clamp v6 n) 64 ≤ c0 v6 := by have := clamp_le v6 n; cases v6 <;> simp [wid, c0] at this ⊢ <;> omega
theorem clamp1 (v6 : Bool) (n : Int) : clamp v6 n - 64 ≤ c1 v6 := by have := clamp_le v6 n; cases v6 <;> simp [wid, c1] at this ⊢ <;> omega
theorem p_high : T_high := by
  intro n hn
  by_cases h : n = 0
  · subst h
    exact ⟨(), trivial, rfl, trivial⟩
  · have h1 : (decide ((↑n : Int) = 0)) = false := by simp; omega
    rw [h1]
    refine ⟨⟨by omega, by omega⟩, by omega, (), trivial, ?_, trivial⟩
    have h2 := high_val n (by omega) hn
    rw [IntKind.wrap_u64] at h2
    rw [← h2]
    congr 2
    show (2 : Int) ^ min (((64 : Int) - (n : Int)) % 18446744073709551616).toNat 64 = 2 ^ (64 - n)
    congr 1
    omega
theorem p_width : T_width := by
  intro v6 _
  cases v6 <;> exact ⟨(), trivial, rfl, trivial⟩
theorem p_ones : T_ones := by
  rintro ⟨m, v6⟩ hm
  have hm : (m : Int) ≤ wid v6 := hm
  have hw : wid v6 = 128 ∨ wid v6 = 32 := by cases v6 <;> simp [wid]
  have hc0 : ((c0 v6 : Nat) : Int) = max 0 (min (wid v6) 64) := by cases v6 <;> simp [wid, c0] <;> omega
  have hc1 : ((c1 v6 : Nat) : Int) = max 0 (min (wid v6 - 64) 64) := by cases v6 <;> simp [wid, c1] <;> omega
  refine ⟨by omega, ⟨by simp only; omega, by simp only; omega⟩, by omega, ⟨by simp only; omega, by simp only; omega⟩, c0 v6, by simp only; omega, c0_le v6, fun _ _ => ⟨min m 64, by simp only; omega, by omega, fun _ _ => ?_⟩⟩
  refine ⟨by omega, by omega, ⟨by simp only; omega, by simp only; omega⟩, by omega, ⟨by simp only; omega, by simp only; omega⟩, c1 v6, by simp only; omega, c1_le v6, fun _ _ => ⟨m - 64, by simp only; omega, by omega, fun _ _ => ⟨by omega, (), trivial, ?_, ?_, trivial⟩⟩⟩
  · exact u64_andNot_nat _ _ (topN_lt _ (c0_le v6)) (topN_lt _ (by omega))
  · exact u64_andNot_nat _ _ (topN_lt _ (c1_le v6)) (topN_lt _ (by omega))
theorem p_read : T_read := by
  rintro ⟨hi, lo, v6⟩ ⟨h1, h2⟩
  have h1 : hi < 18446744073709551616 := h1
  have h2 : lo < 18446744073709551616 := h2
  refine ⟨v6, rfl, trivial, fun _ _ => ⟨(0, v6), rfl, rfl, by cases v6 <;> decide, fun _ _ => ⟨by omega, by omega, (), trivial, ?_, ?_, trivial⟩⟩⟩
  · refine (u64_and_nat _ _ h1 (onesN_lt _ _ (c0_le v6))).trans ?_
    rw [show min (0, v6).1 64 = 0 from rfl, and_onesN hi (c0 v6) h1 (c0_le v6)]
  · refine (u64_and_nat _ _ h2 (onesN_lt _ _ (c1_le v6))).trans ?_
    rw [show (0, v6).1 - 64 = 0 from rfl, and_onesN lo (c1 v6) h2 (c1_le v6)]
theorem p_tail : T_tail := by
  rintro ⟨⟨hi, lo, v6⟩, n⟩ _
  have hc := clamp_le v6 n
  refine ⟨v6, rfl, trivial, fun _ _ => ⟨(clamp v6 n, v6), ?_, rfl, hc, fun _ _ => ⟨(), trivial, rfl, rfl, trivial⟩⟩⟩
  show max 0 (min n (wid v6)) = ((clamp v6 n : Nat) : Int)
  unfold clamp
  omega
theorem p_mask : T_mask := by
  rintro ⟨⟨hi, lo, v6⟩, n⟩ ⟨h1, h2⟩
  refine ⟨(hi, lo, v6), rfl, rfl, rfl, ⟨h1, h2⟩, fun _ _ => ⟨((hi, lo, v6), n), rfl, rfl, rfl, rfl, trivial, fun _ _ => ⟨by omega, by omega, (), trivial, ?_, ?_, rfl, trivial⟩⟩⟩
  · refine (u64_andNot_nat _ _ (keepN_lt _ _ h1) (onesN_lt _ _ (c0_le v6))).trans ?_
    exact congrArg Int.ofNat (andNot_onesN hi (c0 v6) _ h1 (c0_le v6) (clamp0 v6 n))
  · refine (u64_andNot_nat _ _ (keepN_lt _ _ h2) (onesN_lt _ _ (c1_le v6))).trans ?_
    exact congrArg Int.ofNat (andNot_onesN lo (c1 v6) _ h2 (c1_le v6) (clamp1 v6 n))
theorem clamp_clamp (v6 : Bool) (n : Int) : clamp v6 (max 0 (min n (wid v6))) = clamp v6 n := by unfold clamp; cases v6 <;> simp [wid] <;> omega
theorem p_of : T_of := by
  rintro ⟨⟨hi, lo, v6⟩, n⟩ ⟨h1, h2⟩
  refine ⟨v6, rfl, trivial, fun _ _ => ⟨((hi, lo, v6), max 0 (min n (wid v6))), rfl, rfl, rfl, rfl, ⟨h1, h2⟩, fun _ _ => ⟨(), trivial, ?_, ?_, rfl, ?_, trivial⟩⟩⟩
  · show ((keepN hi (min (clamp v6 (max 0 (min n (wid v6)))) 64) : Nat) : Int) = _; rw [clamp_clamp]; rfl
  · show ((keepN lo (clamp v6 (max 0 (min n (wid v6))) - 64) : Nat) : Int) = _; rw [clamp_clamp]; rfl
  · show max 0 (min n (wid v6)) = ((clamp v6 n : Nat) : Int)
    unfold clamp
    omega
theorem p_sane : T_sane := by
  rintro ⟨⟨hi, lo, v6⟩, n⟩ ⟨h1, h2⟩
  refine ⟨((hi, lo, v6), n), rfl, rfl, rfl, rfl, ⟨h1, h2⟩, fun _ _ => ⟨(), trivial, ?_, trivial⟩⟩
  unfold saneB ofP
  rw [Bool.eq_iff_iff]
  simp only [Bool.and_eq_true, decide_eq_true_eq, Prod.mk.injEq, Int.natCast_inj]
  simp only [and_assoc]
theorem G0 : Goods Tryz.prog L0 := goods_nil _
theorem g_high : Good Tryz.prog 245 HighS := good_of_owes hM hP G0 Tryz.func245 rfl (o_high ▸ p_high)
theorem G1 : Goods Tryz.prog L1 := goods_cons g_high G0
theorem g_width : Good Tryz.prog 116 WidthS := good_of_owes hM hP G0 Tryz.func116 rfl (o_width ▸ p_width)
theorem G2 : Goods Tryz.prog L2 := goods_cons g_width G1
theorem g_ones : Good Tryz.prog 191 OnesS := good_of_owes hM hP G2 Tryz.func191 rfl (o_ones ▸ p_ones)
theorem G3 : Goods Tryz.prog L3 := goods_cons g_ones G2
theorem g_read : Good Tryz.prog 117 ReadS := good_of_owes hM hP G3 Tryz.func117 rfl (o_read ▸ p_read)
theorem G4 : Goods Tryz.prog L4 := goods_cons g_read G3
theorem g_tail : Good Tryz.prog 185 TailS := good_of_owes hM hP G3 Tryz.func185 rfl (o_tail ▸ p_tail)
theorem G5 : Goods Tryz.prog L5 := goods_cons g_tail G4
theorem g_mask : Good Tryz.prog 105 MaskS := good_of_owes hM hP G5 Tryz.func105 rfl (o_mask ▸ p_mask)
theorem G6 : Goods Tryz.prog L6 := goods_cons g_mask G5
theorem g_of : Good Tryz.prog 78 OfS := good_of_owes hM hP G6 Tryz.func78 rfl (o_of ▸ p_of)
theorem G7 : Goods Tryz.prog L7 := goods_cons g_of G6
theorem g_sane : Good Tryz.prog 38 SaneS := good_of_owes hM hP G7 Tryz.func38 rfl (o_sane ▸ p_sane)
theorem G8 : Goods Tryz.prog L8 := goods_cons g_sane G7
end Sp
end
section
set_option linter.all false
namespace Sp
open Go.Proofs.YthnhbnakpmkppaaGreat.Ma
def toB (w x : Nat) : List Bool := (List.range w).map fun i => x.testBit (w - 1 - i)
def valB (l : List Bool) : Nat := l.foldl (fun n b => 2 * n + b.toNat) 0
theorem toB_length (w x : Nat) : (toB w x).length = w := by simp [toB]
theorem toB_get (w x i : Nat) : (toB w x)[i]? = if i < w then some (x.testBit (w - 1 - i)) else none := by
  unfold toB
  rw [List.getElem?_map]
  by_cases h : i < w
  · rw [List.getElem?_range h, if_pos h]; rfl
  · rw [List.getElem?_eq_none (by simpa using h), if_neg h]; rfl
theorem valB_foldl (l : List Bool) : ∀ n, l.foldl (fun n b => 2 * n + b.toNat) n = n * 2 ^ l.length + valB l := by
  induction l with
  | nil => intro n; simp [valB]
  | cons b l ih =>
    intro n
    have h := ih (2 * 0 + b.toNat)
    simp only [valB, List.foldl_cons, List.length_cons] at *
    rw [ih, h, Nat.pow_succ, Nat.add_mul, Nat.mul_comm (2 ^ l.length) 2, ← Nat.mul_assoc]
    rw [Nat.mul_comm 2 n, Nat.mul_zero, Nat.zero_add]
    omega
theorem valB_nil : valB [] = 0 := rfl
theorem valB_cons (b : Bool) (l : List Bool) : valB (b :: l) = b.toNat * 2 ^ l.length + valB l := by
  have := valB_foldl l (2 * 0 + b.toNat)
  simp only [Nat.mul_zero, Nat.zero_add] at this
  simpa [valB] using this
theorem valB_append (l m : List Bool) : valB (l ++ m) = valB l * 2 ^ m.length + valB m := by
  have := valB_foldl m (valB l)
  simpa [valB, List.foldl_append] using this
theorem valB_lt (l : List Bool) : valB l < 2 ^ l.length := by
  induction l with
  | nil => simp [valB]
  | cons b l ih =>
    rw [valB_cons, List.length_cons, Nat.pow_succ]
    have := b.toNat_le
    have h : b.toNat * 2 ^ l.length ≤ 1 * 2 ^ l.length := Nat.mul_le_mul_right _ this
    omega
theorem valB_bit (l : List Bool) (i : Nat) (h : i < l.length) : (valB l).testBit (l.length - 1 - i) = l[i] := by
  induction l generalizing i with
  | nil => simp at h
  | cons b l ih =>
    rw [valB_cons, Nat.mul_comm, Nat.testBit_two_pow_mul_add _ (valB_lt l)]
    cases i with
    | zero =>
      simp only [List.length_cons, Nat.add_sub_cancel, Nat.sub_zero, Nat.lt_irrefl, if_false, Nat.sub_self, List.getElem_cons_zero]
      cases b <;> rfl
    | succ i =>
      have h' : i < l.length := by simpa using h
      have e : (b :: l).length - 1 - (i + 1) = l.length - 1 - i := by simp only [List.length_cons]; omega
      rw [e, if_pos (by omega), ih i h', List.getElem_cons_succ]
theorem toB_valB (l : List Bool) : toB l.length (valB l) = l := by
  apply List.ext_getElem?
  intro i
  rw [toB_get]
  by_cases h : i < l.length
  · rw [if_pos h, valB_bit l i h, List.getElem?_eq_getElem h]
  · rw [if_neg h, List.getElem?_eq_none (by omega)]
theorem toB_valB' {w : Nat} {l : List Bool} (h : l.length = w) : toB w (valB l) = l := by rw [← h]; exact toB_valB l
theorem toB_inj {w x y : Nat} (hx : x < 2 ^ w) (hy : y < 2 ^ w) (h : toB w x = toB w y) : x = y := by
  apply Nat.eq_of_testBit_eq
  intro j
  by_cases hj : j < w
  · have h1 := toB_get w x (w - 1 - j)
    have h2 := toB_get w y (w - 1 - j)
    rw [h, h2, if_pos (by omega), if_pos (by omega), show w - 1 - (w - 1 - j) = j by omega] at h1
    exact (Option.some.inj h1).symm
  · have e : ∀ z, z < 2 ^ w → z.testBit j = false := fun z hz => Nat.testBit_lt_two_pow (Nat.lt_of_lt_of_le hz (Nat.pow_le_pow_right (by omega) (by omega)))
    rw [e x hx, e y hy]
theorem valB_toB {w x : Nat} (h : x < 2 ^ w) : valB (toB w x) = x := by
  have h1 := valB_lt (toB w x)
  rw [toB_length] at h1
  exact toB_inj h1 h (toB_valB' (toB_length w x))
theorem toB_split (a b x : Nat) : toB (a + b) x = toB a (x / 2 ^ b) ++ toB b x := by
  apply List.ext_getElem?
  intro i
  rw [toB_get, List.getElem?_append, toB_length, toB_get, toB_get]
  by_cases h1 : i < a
  · rw [if_pos (by omega), if_pos h1, if_pos h1, Nat.testBit_div_two_pow]
    congr 2; omega
  · rw [if_neg h1]
    by_cases h2 : i < a + b
    · rw [if_pos h2, if_pos (by omega)]; congr 2; omega
    · rw [if_neg h2, if_neg (by omega)]
theorem toB_mod (a x : Nat) : toB a (x % 2 ^ a) = toB a x := by
  apply List.ext_getElem?
  intro i
  rw [toB_get, toB_get]
  split
  · rw [Nat.testBit_mod_two_pow]
    simp
    omega
  · rfl
def padr (n : Nat) (l : List Bool) : List Bool := l ++ List.replicate (n - l.length) false
theorem padr_length {n : Nat} {l : List Bool} (h : l.length ≤ n) : (padr n l).length = n := by simp [padr]; omega
theorem valB_zeros (n : Nat) : valB (List.replicate n false) = 0 := by
  induction n with
  | zero => rfl
  | succ n ih => rw [List.replicate_succ, valB_cons, ih]; simp
theorem toB_keepN (x h : Nat) (hh : h ≤ 64) : toB 64 (keepN x h) = padr 64 ((toB 64 x).take h) := by
  apply List.ext_getElem?
  intro i
  rw [toB_get]
  unfold padr
  rw [List.getElem?_append, List.length_take, toB_length, List.getElem?_take, toB_get, List.getElem?_replicate, bit_keepN]
  by_cases h1 : i < h
  · rw [if_pos (by omega), if_pos (by omega), if_pos h1, if_pos (by omega)]
    rw [show decide (64 - h ≤ 64 - 1 - i) = true by simp; omega]
    rfl
  · by_cases h2 : i < 64
    · rw [if_pos h2, if_neg (by omega), if_pos (by omega)]
      rw [show decide (64 - h ≤ 64 - 1 - i) = false by simp; omega]
      rfl
    · rw [if_neg h2, if_neg (by omega), if_neg (by omega)]
theorem keepN_val (x h : Nat) (hh : h ≤ 64) (hx : x < 2 ^ 64) : valB (padr 64 ((toB 64 x).take h)) = keepN x h := by
  rw [← toB_keepN x h hh, valB_toB (by have := keepN_lt x h (by simpa using hx); simpa using this)]

/-! ### addresses -/
abbrev Ad := Int × Int × Bool
def wd (v6 : Bool) : Nat := if v6 = true then 128 else 32
def wfW (x : Int) : Prop := 0 ≤ x ∧ x < 18446744073709551616
def wfA (a : Ad) : Prop := wfW a.1 ∧ wfW a.2.1
def bitsA (a : Ad) : List Bool := (toB 64 a.1.toNat ++ toB 64 a.2.1.toNat).take (wd a.2.2)
def ofB (v6 : Bool) (l : List Bool) : Ad := ((valB (padr 64 (l.take 64)) : Nat), (valB (padr 64 (l.drop 64)) : Nat), v6)
theorem bitsA_length (a : Ad) : (bitsA a).length = wd a.2.2 := by
  simp only [bitsA, List.length_take, List.length_append, toB_length, wd]
  split <;> omega
theorem wd_le (v6 : Bool) : wd v6 ≤ 128 := by unfold wd; split <;> omega
theorem padr_take (l : List Bool) : (padr 64 (l.take 64)).length = 64 := padr_length (by simp; omega)
theorem padr_drop {l : List Bool} (h : l.length ≤ 128) : (padr 64 (l.drop 64)).length = 64 := padr_length (by simp; omega)
theorem wfW_val {l : List Bool} (h : l.length = 64) : wfW (valB l : Nat) := by
  have := valB_lt l
  rw [h] at this
  unfold wfW
  omega
theorem wfA_ofB (v6 : Bool) {l : List Bool} (h : l.length ≤ 128) : wfA (ofB v6 l) := ⟨wfW_val (padr_take l), wfW_val (padr_drop h)⟩
theorem padr_split {l : List Bool} (h : l.length ≤ 128) : padr 64 (l.take 64) ++ padr 64 (l.drop 64) = padr 128 l := by
  unfold padr
  by_cases h1 : 64 ≤ l.length
  · have e : 64 - (l.take 64).length = 0 := by simp; omega
    rw [e, List.replicate_zero, List.append_nil, ← List.append_assoc, List.take_append_drop]
    congr 2
    simp; omega
  · rw [List.take_of_length_le (by omega), List.drop_of_length_le (by omega), List.nil_append, List.append_assoc, List.replicate_append_replicate]
    congr 2
    simp; omega
theorem words_ofB (v6 : Bool) {l : List Bool} (h : l.length ≤ 128) : toB 64 (ofB v6 l).1.toNat ++ toB 64 (ofB v6 l).2.1.toNat = padr 128 l := by
  simp only [ofB, Int.toNat_natCast]
  rw [toB_valB' (padr_take l), toB_valB' (padr_drop h), padr_split h]
theorem bitsA_ofB (v6 : Bool) {l : List Bool} (h : l.length ≤ wd v6) : bitsA (ofB v6 l) = padr (wd v6) l := by
  have hw := wd_le v6
  unfold bitsA
  rw [words_ofB v6 (by omega)]
  show (padr 128 l).take (wd v6) = _
  unfold padr
  rw [List.take_append, List.take_of_length_le h, List.take_replicate]
  congr 2
  omega
theorem bitsA_ofB_full (v6 : Bool) {l : List Bool} (h : l.length = wd v6) : bitsA (ofB v6 l) = l := by
  rw [bitsA_ofB v6 (by omega)]
  unfold padr
  rw [h, Nat.sub_self]
  simp
def canA (a : Ad) : Ad := ofB a.2.2 (bitsA a)
def saneA (a : Ad) : Bool := decide (canA a = a)
theorem bitsA_can (a : Ad) : bitsA (canA a) = bitsA a := bitsA_ofB_full _ (bitsA_length a)
theorem ofB_inj {v6 : Bool} {l m : List Bool} (hl : l.length ≤ wd v6) (hm : m.length ≤ wd v6) (h : ofB v6 l = ofB v6 m) : padr (wd v6) l = padr (wd v6) m := by
  rw [← bitsA_ofB v6 hl, h, bitsA_ofB v6 hm]
theorem padr_inj {n : Nat} {l m : List Bool} (h : l.length = m.length) (he : padr n l = padr n m) : l = m := by
  have := congrArg (List.take l.length) he
  unfold padr at this
  rw [List.take_left, h, List.take_left] at this
  exact this
theorem words_eq {a : Ad} (h : wfA a) : toB 64 a.1.toNat ++ toB 64 a.2.1.toNat = padr 128 (bitsA a) ↔ saneA a = true := by
  unfold saneA
  rw [decide_eq_true_eq]
  obtain ⟨⟨h1, h2⟩, h3, h4⟩ := h
  constructor
  · intro he
    have hl : (bitsA a).length ≤ 128 := by rw [bitsA_length]; exact wd_le _
    rw [← padr_split hl] at he
    have e1 := congrArg (List.take 64) he
    have e2 := congrArg (List.drop 64) he
    rw [List.take_left' (toB_length _ _), List.take_left' (padr_take _)] at e1
    rw [List.drop_left' (toB_length _ _), List.drop_left' (padr_take _)] at e2
    obtain ⟨hi, lo, v6⟩ := a
    have f1 : ((valB (padr 64 ((bitsA (hi, lo, v6)).take 64)) : Nat) : Int) = hi := by
      rw [← e1, valB_toB (by simp only at h1 h2 ⊢; omega)]; simp only at h1 h2 ⊢; omega
    have f2 : ((valB (padr 64 ((bitsA (hi, lo, v6)).drop 64)) : Nat) : Int) = lo := by
      rw [← e2, valB_toB (by simp only at h3 h4 ⊢; omega)]; simp only at h3 h4 ⊢; omega
    show (_, _, v6) = _
    rw [f1, f2]
  · intro he
    conv => lhs; rw [← he]
    exact words_ofB _ (by rw [bitsA_length]; exact wd_le _)
def maskA (a : Ad) (n : Int) : Ad := ofB a.2.2 ((bitsA a).take n.toNat)
theorem maskA_eq (hi lo : Nat) (v6 : Bool) (n : Int) (h1 : hi < 18446744073709551616) (h2 : lo < 18446744073709551616) :
    maskA ((hi : Int), (lo : Int), v6) n = (((keepN hi (min (min n.toNat (wd v6)) 64) : Nat) : Int), ((keepN lo (min n.toNat (wd v6) - 64) : Nat) : Int), v6) := by
  have hw := wd_le v6
  unfold maskA ofB bitsA
  simp only [Int.toNat_natCast, List.take_take]
  generalize hc : min n.toNat (wd v6) = c
  have hc' : c ≤ 128 := by omega
  have e1 : (toB 64 hi ++ toB 64 lo).take (min 64 c) = (toB 64 hi).take (min c 64) := by
    rw [Nat.min_comm, List.take_append_of_le_length (by rw [toB_length]; omega)]
  have e2 : ((toB 64 hi ++ toB 64 lo).take c).drop 64 = (toB 64 lo).take (c - 64) := by
    rw [List.drop_take, List.drop_left' (toB_length _ _)]
  rw [e1, e2, keepN_val hi _ (by omega) (by simpa using h1), keepN_val lo _ (by omega) (by simpa using h2)]
/-! ### bytes -/
def okB (l : List Int) : Prop := ∀ x ∈ l, 0 ≤ x ∧ x ≤ 255
def bitsL (l : List Int) : List Bool := l.flatMap fun x => toB 8 x.toNat
def bytesB : Nat → List Bool → List Int
  | 0, _ => []
  | n + 1, l => (valB (l.take 8) : Int) :: bytesB n (l.drop 8)
theorem bytesB_length (n : Nat) : ∀ l, (bytesB n l).length = n := by
  induction n with
  | zero => intro l; rfl
  | succ n ih => intro l; simp [bytesB, ih]
theorem bitsL_length (l : List Int) : (bitsL l).length = 8 * l.length := by
  induction l with
  | nil => rfl
  | cons x l ih => simp only [bitsL, List.flatMap_cons, List.length_append, toB_length, List.length_cons] at *; omega
theorem bitsL_cons (x : Int) (l : List Int) : bitsL (x :: l) = toB 8 x.toNat ++ bitsL l := rfl
theorem bitsL_append (l m : List Int) : bitsL (l ++ m) = bitsL l ++ bitsL m := by simp [bitsL]
theorem bitsL_bytesB (n : Nat) : ∀ {l : List Bool}, l.length = 8 * n → bitsL (bytesB n l) = l := by
  induction n with
  | zero => intro l h; have : l = [] := List.length_eq_zero_iff.1 (by omega); subst this; rfl
  | succ n ih =>
    intro l h
    rw [bytesB, bitsL_cons, ih (by simp; omega), Int.toNat_natCast, toB_valB' (by simp; omega), List.take_append_drop]
theorem bytesB_bitsL {l : List Int} (h : okB l) : bytesB l.length (bitsL l) = l := by
  induction l with
  | nil => rfl
  | cons x l ih =>
    have hx := h x (by simp)
    rw [List.length_cons, bytesB, bitsL_cons, List.take_left' (toB_length _ _), List.drop_left' (toB_length _ _), ih fun y hy => h y (by simp [hy]), valB_toB (by omega)]
    congr 1
    omega
theorem okB_bytesB (n : Nat) : ∀ l, okB (bytesB n l) := by
  induction n with
  | zero => intro l x hx; simp [bytesB] at hx
  | succ n ih =>
    intro l x hx
    rcases List.mem_cons.1 hx with rfl | hx
    · have := valB_lt (l.take 8)
      have h8 : (l.take 8).length ≤ 8 := by simp; omega
      have := Nat.lt_of_lt_of_le this (Nat.pow_le_pow_right (by omega) h8)
      omega
    · exact ih _ x hx
theorem okB_append {l m : List Int} (h : okB l) (h' : okB m) : okB (l ++ m) := fun x hx => (List.mem_append.1 hx).elim (h x) (h' x)
theorem okB_take {l : List Int} (h : okB l) (n : Nat) : okB (l.take n) := fun x hx => h x (List.mem_of_mem_take hx)
theorem okB_drop {l : List Int} (h : okB l) (n : Nat) : okB (l.drop n) := fun x hx => h x (List.mem_of_mem_drop hx)
theorem okB_zeros (n : Nat) : okB (List.replicate n 0) := fun x hx => by rw [List.eq_of_mem_replicate hx]; omega
theorem okB_getD {l : List Int} (h : okB l) (i : Nat) : 0 ≤ l.getD i 0 ∧ l.getD i 0 ≤ 255 := by
  rw [List.getD_eq_getElem?_getD]
  cases hq : l[i]? with
  | none => simp
  | some x => exact h x (List.mem_of_getElem? hq)
def bytesA (a : Ad) : List Int := bytesB (wd a.2.2 / 8) (bitsA a)
def fromL (l : List Int) : Ad := ofB (decide (l.length = 16)) (bitsL l)
theorem bytesA_length (a : Ad) : (bytesA a).length = wd a.2.2 / 8 := bytesB_length _ _
theorem bitsL_bytesA (a : Ad) : bitsL (bytesA a) = bitsA a := by
  unfold bytesA
  refine bitsL_bytesB _ ?_
  rw [bitsA_length]
  unfold wd
  split <;> rfl
theorem fromL_bytesA (a : Ad) : fromL (bytesA a) = canA a := by
  unfold fromL canA
  rw [bytesA_length, bitsL_bytesA]
  congr 1
  unfold wd
  cases a.2.2 <;> rfl
theorem bytesA_fromL {l : List Int} (h : okB l) (hl : l.length = 4 ∨ l.length = 16) : bytesA (fromL l) = l := by
  have e : (fromL l).2.2 = decide (l.length = 16) := rfl
  have hb : (bitsL l).length = wd (decide (l.length = 16)) := by
    rw [bitsL_length]
    unfold wd
    rcases hl with h | h <;> rw [h] <;> rfl
  unfold bytesA
  rw [e]
  have : bitsA (fromL l) = bitsL l := bitsA_ofB_full _ hb
  rw [this, ← hb, bitsL_length, Nat.mul_div_cancel_left _ (by omega), bytesB_bitsL h]
/-! ### words with a sign -/
open Go
theorem i64_or_nat (a b : Nat) (ha : a < 9223372036854775808) (hb : b < 9223372036854775808) : bits .or .i64 (a : Int) (b : Int) = ((a ||| b : Nat) : Int) := by
  have hx : a ||| b < 2 ^ 63 := Nat.or_lt_two_pow (by omega) (by omega)
  show IntKind.i64.wrap ((BitVec.ofInt 64 (a : Int) ||| BitVec.ofInt 64 (b : Int)).toNat : Int) = _
  rw [BitVec.toNat_or, ofInt_u64 a (by omega), ofInt_u64 b (by omega), IntKind.wrap_i64]
  omega
theorem i64_and_nat (a b : Nat) (ha : a < 9223372036854775808) (hb : b < 9223372036854775808) : bits .and .i64 (a : Int) (b : Int) = ((a &&& b : Nat) : Int) := by
  have hx : a &&& b < 2 ^ 63 := Nat.and_lt_two_pow _ (by omega)
  show IntKind.i64.wrap ((BitVec.ofInt 64 (a : Int) &&& BitVec.ofInt 64 (b : Int)).toNat : Int) = _
  rw [BitVec.toNat_and, ofInt_u64 a (by omega), ofInt_u64 b (by omega), IntKind.wrap_i64]
  omega
end Sp
end
section
set_option linter.all false
namespace Sp
abbrev Pf := Int × Int × Bool × Int
abbrev Rt := Int × Int × Bool × Int × Int
@[reducible] def pA (p : Pf) : Ad := (p.1, p.2.1, p.2.2.1)
@[reducible] def mkP (a : Ad) (n : Int) : Pf := (a.1, a.2.1, a.2.2, n)
@[reducible] def rP (r : Rt) : Pf := (r.1, r.2.1, r.2.2.1, r.2.2.2.1)
@[reducible] def mkR (p : Pf) (h : Int) : Rt := (p.1, p.2.1, p.2.2.1, p.2.2.2, h)
def zP : Pf := (0, 0, false, 0)
def zR : Rt := (0, 0, false, 0, 0)
def clampZ (v6 : Bool) (n : Int) : Int := max 0 (min n (wd v6))
def ofPf (a : Ad) (n : Int) : Pf := mkP (maskA a n) (clampZ a.2.2 n)
def saneP (p : Pf) : Bool := decide (p = ofPf (pA p) p.2.2.2)
def wfP (p : Pf) : Prop := wfA (pA p)
def goodR (r : Rt) : Bool := decide (0 ≤ r.2.2.2.2) && (decide (r.2.2.2.2 ≤ 65535) && saneP (rP r))
def longZ (n : Int) : Nat := ((n + 7) / 8).toNat
def putP (p : Pf) : List Int := if saneP p = true then (if p.2.2.1 = true then 6 else 4) :: p.2.2.2 :: (bytesA (pA p)).take (longZ p.2.2.2) else []
def putR (r : Rt) : List Int := if goodR r = true then putP (rP r) ++ [r.2.2.2.2 / 256, r.2.2.2.2 % 256] else []
def wholeB (v6 : Bool) (l : List Int) : List Int := l ++ List.replicate (wd v6 / 8 - l.length) 0
def getP (b : List Int) : Pf × Int × Int :=
  if b.length < 2 then (zP, 0, 6)
  else if b.getD 0 0 ≠ 4 ∧ b.getD 0 0 ≠ 6 then (zP, 0, 5)
  else if (wd (decide (b.getD 0 0 = 6)) : Int) < b.getD 1 0 then (zP, 0, 1)
  else if b.length < 2 + longZ (b.getD 1 0) then (zP, 0, 6)
  else if saneP (mkP (fromL (wholeB (decide (b.getD 0 0 = 6)) ((b.drop 2).take (longZ (b.getD 1 0))))) (b.getD 1 0)) = true then
    (mkP (fromL (wholeB (decide (b.getD 0 0 = 6)) ((b.drop 2).take (longZ (b.getD 1 0))))) (b.getD 1 0), 2 + (longZ (b.getD 1 0) : Int), 0)
  else (zP, 0, 1)
def getR (b : List Int) : Rt × Int × Int :=
  if (getP b).2.2 ≠ 0 then (zR, 0, (getP b).2.2)
  else if (b.length : Int) < (getP b).2.1 + 2 then (zR, 0, 6)
  else (mkR (getP b).1 (b.getD (getP b).2.1.toNat 0 * 256 + b.getD ((getP b).2.1.toNat + 1) 0), (getP b).2.1 + 2, 0)
theorem wd_cases (v6 : Bool) : (v6 = true ∧ wd v6 = 128) ∨ (v6 = false ∧ wd v6 = 32) := by cases v6 <;> simp [wd]
theorem wd_bytes (v6 : Bool) : wd v6 = 8 * (wd v6 / 8) := by cases v6 <;> rfl
theorem sane_iff {p : Pf} : saneP p = true ↔ maskA (pA p) p.2.2.2 = pA p ∧ 0 ≤ p.2.2.2 ∧ p.2.2.2 ≤ wd p.2.2.1 := by
  obtain ⟨hi, lo, v6, n⟩ := p
  unfold saneP ofPf clampZ
  simp only [decide_eq_true_eq, Prod.mk.injEq, Prod.ext_iff]
  constructor
  · rintro ⟨h1, h2, h3, h4⟩
    exact ⟨⟨h1.symm, h2.symm, h3.symm⟩, by omega, by omega⟩
  · rintro ⟨⟨h1, h2, h3⟩, h4, h5⟩
    exact ⟨h1.symm, h2.symm, h3.symm, by omega⟩
theorem sane_bits {p : Pf} (h : saneP p = true) : bitsA (pA p) = padr (wd p.2.2.1) ((bitsA (pA p)).take p.2.2.2.toNat) := by
  have h1 := (sane_iff.1 h).1
  conv => lhs; rw [← h1]
  unfold maskA
  refine bitsA_ofB _ ?_
  rw [List.length_take, bitsA_length]
  show min _ (wd p.2.2.1) ≤ wd p.2.2.1
  omega
theorem sane_can {p : Pf} (h : saneP p = true) : canA (pA p) = pA p := by
  have h1 := (sane_iff.1 h).1
  have h2 := sane_bits h
  show ofB p.2.2.1 (bitsA (pA p)) = pA p
  conv => rhs; rw [← h1]
  rw [h2]
  show ofB _ _ = ofB p.2.2.1 ((bitsA (pA p)).take p.2.2.2.toNat)
  unfold ofB
  have e1 : ∀ l : List Bool, l.length ≤ wd p.2.2.1 → padr 64 ((padr (wd p.2.2.1) l).take 64) = padr 64 (l.take 64) := by
    intro l hl
    unfold padr
    rw [List.take_append, List.append_assoc]
    congr 1
    rw [List.take_replicate, List.replicate_append_replicate]
    congr 1
    simp
    rcases wd_cases p.2.2.1 with ⟨_, e⟩ | ⟨_, e⟩ <;> rw [e] at hl ⊢ <;> omega
  have e2 : ∀ l : List Bool, l.length ≤ wd p.2.2.1 → padr 64 ((padr (wd p.2.2.1) l).drop 64) = padr 64 (l.drop 64) := by
    intro l hl
    unfold padr
    rw [List.drop_append, List.append_assoc]
    congr 1
    rw [List.drop_replicate, List.replicate_append_replicate]
    congr 1
    simp
    rcases wd_cases p.2.2.1 with ⟨_, e⟩ | ⟨_, e⟩ <;> rw [e] at hl ⊢ <;> omega
  have hl : ((bitsA (pA p)).take p.2.2.2.toNat).length ≤ wd p.2.2.1 := by
    rw [List.length_take, bitsA_length]; exact Nat.min_le_right _ _
  rw [e1 _ hl, e2 _ hl]
theorem bytesB_drop (k : Nat) : ∀ (n : Nat) (l : List Bool), (bytesB n l).drop k = bytesB (n - k) (l.drop (8 * k)) := by
  induction k with
  | zero => intro n l; simp
  | succ k ih =>
    intro n l
    cases n with
    | zero => simp [bytesB]
    | succ n =>
      rw [bytesB, List.drop_succ_cons, ih, List.drop_drop, show n + 1 - (k + 1) = n - k by omega, show 8 + 8 * k = 8 * (k + 1) by omega]
theorem bytesB_zeros (n : Nat) : ∀ m, bytesB n (List.replicate m false) = List.replicate n 0 := by
  induction n with
  | zero => intro m; rfl
  | succ n ih => intro m; rw [bytesB, List.take_replicate, valB_zeros, List.drop_replicate, ih, List.replicate_succ]; rfl
theorem longZ_le {n : Int} {v6 : Bool} (h : n ≤ wd v6) : longZ n ≤ wd v6 / 8 := by
  unfold longZ
  rcases wd_cases v6 with ⟨_, e⟩ | ⟨_, e⟩ <;> rw [e] at h ⊢ <;> omega
theorem sane_bytes {p : Pf} (h : saneP p = true) : wholeB p.2.2.1 ((bytesA (pA p)).take (longZ p.2.2.2)) = bytesA (pA p) := by
  obtain ⟨_, h0, h1⟩ := sane_iff.1 h
  have hl := longZ_le h1
  have hd : (bytesA (pA p)).drop (longZ p.2.2.2) = List.replicate (wd p.2.2.1 / 8 - longZ p.2.2.2) 0 := by
    unfold bytesA
    rw [bytesB_drop, sane_bits h]
    unfold padr
    rw [List.drop_append, List.drop_eq_nil_of_le (by rw [List.length_take]; unfold longZ; omega), List.nil_append, List.drop_replicate, bytesB_zeros]
  conv => rhs; rw [← List.take_append_drop (longZ p.2.2.2) (bytesA (pA p)), hd]
  unfold wholeB
  rw [List.length_take, bytesA_length]
  congr 2
  show wd p.2.2.1 / 8 - min (longZ p.2.2.2) (wd p.2.2.1 / 8) = _
  omega
theorem putP_length {p : Pf} (h : saneP p = true) : (putP p).length = 2 + longZ p.2.2.2 := by
  obtain ⟨_, h0, h1⟩ := sane_iff.1 h
  have hl := longZ_le h1
  unfold putP
  rw [if_pos h]
  simp only [List.length_cons, List.length_take, bytesA_length]
  show min (longZ p.2.2.2) (wd p.2.2.1 / 8) + 1 + 1 = _
  omega
theorem get_put {p : Pf} (h : saneP p = true) (more : List Int) : getP (putP p ++ more) = (p, 2 + (longZ p.2.2.2 : Int), 0) := by
  obtain ⟨_, h0, h1⟩ := sane_iff.1 h
  have hl := longZ_le h1
  have hlen := putP_length h
  have hput : putP p = (if p.2.2.1 = true then 6 else 4) :: p.2.2.2 :: (bytesA (pA p)).take (longZ p.2.2.2) := by unfold putP; rw [if_pos h]
  have g0 : (putP p ++ more).getD 0 0 = if p.2.2.1 = true then 6 else 4 := by rw [hput]; rfl
  have g1 : (putP p ++ more).getD 1 0 = p.2.2.2 := by rw [hput]; rfl
  have gd : ((putP p ++ more).drop 2).take (longZ p.2.2.2) = (bytesA (pA p)).take (longZ p.2.2.2) := by
    rw [hput]
    simp only [List.cons_append, List.drop_succ_cons, List.drop_zero]
    rw [List.take_append_of_le_length (by rw [List.length_take, bytesA_length]; show _ ≤ min _ (wd p.2.2.1 / 8); omega), List.take_take, Nat.min_self]
  have hv : decide ((if p.2.2.1 = true then (6 : Int) else 4) = 6) = p.2.2.1 := by cases p.2.2.1 <;> simp
  unfold getP
  rw [g0, g1, gd, hv, sane_bytes h, fromL_bytesA, sane_can h]
  rw [if_neg (by rw [List.length_append]; omega), if_neg (by cases p.2.2.1 <;> simp), if_neg (by omega), if_neg (by rw [List.length_append]; omega)]
  rw [show mkP (pA p) p.2.2.2 = p from rfl, if_pos h]
theorem get_short {p : Pf} (h : saneP p = true) : (getP ((putP p).take ((putP p).length - 1))).2.2 = 6 := by
  obtain ⟨_, h0, h1⟩ := sane_iff.1 h
  have hlen := putP_length h
  have hput : putP p = (if p.2.2.1 = true then 6 else 4) :: p.2.2.2 :: (bytesA (pA p)).take (longZ p.2.2.2) := by unfold putP; rw [if_pos h]
  unfold getP
  by_cases hz : longZ p.2.2.2 = 0
  · rw [if_pos (by rw [List.length_take]; omega)]
  obtain ⟨k, hk⟩ : ∃ k, (putP p).length - 1 = k + 2 := ⟨longZ p.2.2.2 - 1, by omega⟩
  have g0 : ((putP p).take ((putP p).length - 1)).getD 0 0 = if p.2.2.1 = true then 6 else 4 := by rw [hk, hput]; rfl
  have g1 : ((putP p).take ((putP p).length - 1)).getD 1 0 = p.2.2.2 := by rw [hk, hput]; rfl
  have hv : decide ((if p.2.2.1 = true then (6 : Int) else 4) = 6) = p.2.2.1 := by cases p.2.2.1 <;> simp
  rw [g0, g1, hv, if_neg (by rw [List.length_take]; omega), if_neg (by cases p.2.2.1 <;> simp), if_neg (by omega), if_pos (by rw [List.length_take]; omega)]
theorem goodR_iff {r : Rt} : goodR r = true ↔ 0 ≤ r.2.2.2.2 ∧ r.2.2.2.2 ≤ 65535 ∧ saneP (rP r) = true := by
  unfold goodR; simp [and_assoc]
theorem getR_putR {r : Rt} (h : goodR r = true) (more : List Int) : getR (putR r ++ more) = (r, ((putR r).length : Int), 0) := by
  obtain ⟨h0, h1, hs⟩ := goodR_iff.1 h
  have hlen : (putP (rP r)).length = 2 + longZ r.2.2.2.1 := putP_length hs
  have hput : putR r = putP (rP r) ++ [r.2.2.2.2 / 256, r.2.2.2.2 % 256] := by unfold putR; rw [if_pos h]
  have hg : getP (putP (rP r) ++ ([r.2.2.2.2 / 256, r.2.2.2.2 % 256] ++ more)) = (rP r, 2 + (longZ r.2.2.2.1 : Int), 0) := get_put hs ([r.2.2.2.2 / 256, r.2.2.2.2 % 256] ++ more)
  unfold getR
  rw [hput, List.append_assoc, hg]
  simp only [ne_eq, not_true_eq_false, if_false]
  rw [if_neg (by simp only [List.length_append, List.length_cons, List.length_nil]; omega)]
  have e1 : (2 + (longZ r.2.2.2.1 : Int)).toNat = (putP (rP r)).length := by omega
  have g0 : (putP (rP r) ++ ([r.2.2.2.2 / 256, r.2.2.2.2 % 256] ++ more)).getD (putP (rP r)).length 0 = r.2.2.2.2 / 256 := by
    rw [List.getD_eq_getElem?_getD, List.getElem?_append_right (Nat.le_refl _), Nat.sub_self]; rfl
  have g1 : (putP (rP r) ++ ([r.2.2.2.2 / 256, r.2.2.2.2 % 256] ++ more)).getD ((putP (rP r)).length + 1) 0 = r.2.2.2.2 % 256 := by
    rw [List.getD_eq_getElem?_getD, List.getElem?_append_right (by omega), show (putP (rP r)).length + 1 - (putP (rP r)).length = 1 by omega]; rfl
  rw [e1, g0, g1, show r.2.2.2.2 / 256 * 256 + r.2.2.2.2 % 256 = r.2.2.2.2 by omega]
  simp only [List.length_append, List.length_cons, List.length_nil]
  refine Prod.ext rfl (Prod.ext ?_ rfl)
  show 2 + (longZ r.2.2.2.1 : Int) + 2 = (((putP (rP r)).length + (0 + 1 + 1) : Nat) : Int)
  omega
theorem putR_length {r : Rt} (h : goodR r = true) : (putR r).length = 4 + longZ r.2.2.2.1 := by
  have hput : putR r = putP (rP r) ++ [r.2.2.2.2 / 256, r.2.2.2.2 % 256] := by unfold putR; rw [if_pos h]
  rw [hput, List.length_append, putP_length (goodR_iff.1 h).2.2]
  simp
  omega
theorem getR_short {r : Rt} (h : goodR r = true) : (getR ((putR r).take ((putR r).length - 1))).2.2 = 6 := by
  obtain ⟨h0, h1, hs⟩ := goodR_iff.1 h
  have hlen : (putP (rP r)).length = 2 + longZ r.2.2.2.1 := putP_length hs
  have hput : putR r = putP (rP r) ++ [r.2.2.2.2 / 256, r.2.2.2.2 % 256] := by unfold putR; rw [if_pos h]
  have e : (putR r).take ((putR r).length - 1) = putP (rP r) ++ [r.2.2.2.2 / 256] := by
    rw [hput, List.length_append, List.take_append]
    simp only [List.length_cons, List.length_nil]
    rw [List.take_of_length_le (by omega), show (putP (rP r)).length + (0 + 1 + 1) - 1 - (putP (rP r)).length = 1 by omega]
    rfl
  rw [e]
  unfold getR
  have hg : getP (putP (rP r) ++ [r.2.2.2.2 / 256]) = (rP r, 2 + (longZ r.2.2.2.1 : Int), 0) := get_put hs _
  rw [hg]
  simp only [ne_eq, not_true_eq_false, if_false]
  rw [if_pos (by simp only [List.length_append, List.length_cons, List.length_nil]; omega)]
theorem putR_inj {r s : Rt} (hr : goodR r = true) (hs : goodR s = true) {m n : List Int} (h : putR r ++ m = putR s ++ n) : r = s := by
  have h1 := getR_putR hr m
  have h2 := getR_putR hs n
  rw [h, h2] at h1
  exact (Prod.ext_iff.1 h1).1.symm
theorem getP_ok {b : List Int} (hb : okB b) (h : (getP b).2.2 = 0) : saneP (getP b).1 = true ∧ wfP (getP b).1 ∧ b.take (getP b).2.1.toNat = putP (getP b).1 ∧ (getP b).2.1.toNat ≤ b.length ∧ (getP b).2.1 = 2 + (longZ (getP b).1.2.2.2 : Int) := by
  unfold getP at h ⊢
  by_cases c1 : b.length < 2
  · rw [if_pos c1] at h; exact absurd h (by decide)
  rw [if_neg c1] at h ⊢
  by_cases c2 : b.getD 0 0 ≠ 4 ∧ b.getD 0 0 ≠ 6
  · rw [if_pos c2] at h; exact absurd h (by simp)
  rw [if_neg c2] at h ⊢
  by_cases c3 : (wd (decide (b.getD 0 0 = 6)) : Int) < b.getD 1 0
  · rw [if_pos c3] at h; exact absurd h (by simp)
  rw [if_neg c3] at h ⊢
  by_cases c4 : b.length < 2 + longZ (b.getD 1 0)
  · rw [if_pos c4] at h; exact absurd h (by simp)
  rw [if_neg c4] at h ⊢
  generalize hv : decide (b.getD 0 0 = 6) = v6 at *
  generalize ha : fromL (wholeB v6 ((b.drop 2).take (longZ (b.getD 1 0)))) = a at *
  by_cases c5 : saneP (mkP a (b.getD 1 0)) = true
  rotate_left
  · rw [if_neg c5] at h; exact absurd h (by simp)
  rw [if_pos c5]
  have hn := longZ_le (n := b.getD 1 0) (v6 := v6) (by omega)
  have hlen : (wholeB v6 ((b.drop 2).take (longZ (b.getD 1 0)))).length = wd v6 / 8 := by
    unfold wholeB
    simp only [List.length_append, List.length_take, List.length_drop, List.length_replicate]
    omega
  have hok : okB (wholeB v6 ((b.drop 2).take (longZ (b.getD 1 0)))) := okB_append (okB_take (okB_drop hb 2) _) (okB_zeros _)
  have h416 : wd v6 / 8 = 4 ∨ wd v6 / 8 = 16 := by cases v6 <;> simp [wd]
  have hba : bytesA a = wholeB v6 ((b.drop 2).take (longZ (b.getD 1 0))) := by rw [← ha]; exact bytesA_fromL hok (by rw [hlen]; exact h416)
  have hav : a.2.2 = v6 := by
    rw [← ha]
    show decide (_ = 16) = v6
    rw [hlen]
    cases v6 <;> rfl
  refine ⟨c5, ?_, ?_, ?_, rfl⟩
  · show wfA a
    rw [← ha]
    refine wfA_ofB _ ?_
    rw [bitsL_length, hlen]
    rcases h416 with h | h <;> rw [h] <;> omega
  · show b.take (2 + (longZ (b.getD 1 0) : Int)).toNat = putP (mkP a (b.getD 1 0))
    unfold putP
    rw [if_pos c5]
    show _ = (if a.2.2 = true then (6 : Int) else 4) :: b.getD 1 0 :: (bytesA a).take (longZ (b.getD 1 0))
    rw [hba, hav]
    have e0 : (wholeB v6 ((b.drop 2).take (longZ (b.getD 1 0)))).take (longZ (b.getD 1 0)) = (b.drop 2).take (longZ (b.getD 1 0)) := by
      unfold wholeB
      rw [List.take_append_of_le_length (by simp only [List.length_take, List.length_drop]; omega), List.take_take, Nat.min_self]
    rw [e0]
    have e1 : (if v6 = true then (6 : Int) else 4) = b.getD 0 0 := by
      rw [← hv]
      by_cases h6 : b.getD 0 0 = 6
      · rw [h6]; rfl
      · simp only [h6, decide_false, Bool.false_eq_true, if_false]
        exact (Decidable.byContradiction fun h4 => c2 ⟨fun e => h4 e.symm, h6⟩)
    rw [e1]
    have e2 : ∀ k : Nat, b.take (2 + (k : Int)).toNat = b.getD 0 0 :: b.getD 1 0 :: (b.drop 2).take k := by
      intro k
      rw [show (2 + (k : Int)).toNat = k + 2 by omega]
      cases b with
      | nil => simp at c1
      | cons x t => cases t with
        | nil => simp at c1
        | cons y t => rfl
    exact e2 _
  · show (2 + (longZ (b.getD 1 0) : Int)).toNat ≤ b.length
    omega
theorem getP_bad {b : List Int} (h : (getP b).2.2 ≠ 0) : (getP b).1 = zP ∧ (getP b).2.1 = 0 := by
  unfold getP at h ⊢
  split
  · exact ⟨rfl, rfl⟩
  split
  · exact ⟨rfl, rfl⟩
  split
  · exact ⟨rfl, rfl⟩
  split
  · exact ⟨rfl, rfl⟩
  split
  · rename_i h1 h2 h3 h4 h5
    rw [if_neg h1, if_neg h2, if_neg h3, if_neg h4, if_pos h5] at h
    exact absurd rfl h
  · exact ⟨rfl, rfl⟩
theorem getR_ok {b : List Int} (hb : okB b) (h : (getR b).2.2 = 0) : goodR (getR b).1 = true ∧ wfP (rP (getR b).1) ∧ b.take (getR b).2.1.toNat = putR (getR b).1 ∧ (getR b).2.1 = ((putR (getR b).1).length : Int) ∧ (putR (getR b).1).length ≤ b.length := by
  unfold getR at h ⊢
  by_cases c1 : (getP b).2.2 ≠ 0
  · rw [if_pos c1] at h; exact absurd h c1
  rw [if_neg c1] at h ⊢
  by_cases c2 : (b.length : Int) < (getP b).2.1 + 2
  · rw [if_pos c2] at h; exact absurd h (by simp)
  rw [if_neg c2]
  obtain ⟨h1, h2, h3, h4, h5⟩ := getP_ok hb (Decidable.not_not.1 c1)
  generalize (getP b).1 = p at *
  generalize (getP b).2.1 = n at *
  have b0 := okB_getD hb n.toNat
  have b1 := okB_getD hb (n.toNat + 1)
  have hg : goodR (mkR p (b.getD n.toNat 0 * 256 + b.getD (n.toNat + 1) 0)) = true := goodR_iff.2 ⟨by simp only; omega, by simp only; omega, h1⟩
  have hlen := putR_length hg
  have e : (putR (mkR p (b.getD n.toNat 0 * 256 + b.getD (n.toNat + 1) 0))) = putP p ++ [b.getD n.toNat 0, b.getD (n.toNat + 1) 0] := by
    unfold putR
    rw [if_pos hg]
    show putP p ++ [(b.getD n.toNat 0 * 256 + b.getD (n.toNat + 1) 0) / 256, (b.getD n.toNat 0 * 256 + b.getD (n.toNat + 1) 0) % 256] = _
    rw [show (b.getD n.toNat 0 * 256 + b.getD (n.toNat + 1) 0) / 256 = b.getD n.toNat 0 by omega, show (b.getD n.toNat 0 * 256 + b.getD (n.toNat + 1) 0) % 256 = b.getD (n.toNat + 1) 0 by omega]
  have hlen2 : (putR (mkR p (b.getD n.toNat 0 * 256 + b.getD (n.toNat + 1) 0))).length = n.toNat + 2 := by
    rw [hlen]
    show 4 + longZ p.2.2.2 = _
    omega
  refine ⟨hg, h2, ?_, ?_, ?_⟩
  · show b.take (n + 2).toNat = putR (mkR p _)
    rw [e, ← h3, show (n + 2).toNat = n.toNat + 1 + 1 by omega]
    have hn : n.toNat + 1 < b.length := by omega
    rw [List.take_succ_eq_append_getElem (by omega), List.take_succ_eq_append_getElem (by omega), List.append_assoc]
    congr 1
    simp [List.getD_eq_getElem?_getD, List.getElem?_eq_getElem, hn, show n.toNat < b.length by omega]
  · show n + 2 = _
    rw [hlen2]
    omega
  · rw [hlen2]; omega
theorem getR_bad {b : List Int} (h : (getR b).2.2 ≠ 0) : (getR b).1 = zR ∧ (getR b).2.1 = 0 := by
  unfold getR at h ⊢
  split
  · exact ⟨rfl, rfl⟩
  split
  · exact ⟨rfl, rfl⟩
  · rename_i h1 h2
    rw [if_neg h1, if_neg h2] at h
    exact absurd rfl h
theorem getR_rest {b : List Int} (hb : okB b) (h : (getR b).2.2 = 0) : b = putR (getR b).1 ++ b.drop (getR b).2.1.toNat ∧ 0 < (getR b).2.1.toNat := by
  obtain ⟨h1, _, h3, h4, _⟩ := getR_ok hb h
  refine ⟨by rw [← h3, List.take_append_drop], ?_⟩
  have := putR_length h1
  omega
def getAllN : Nat → List Int → List Rt × Int
  | 0, _ => ([], 0)
  | _ + 1, [] => ([], 0)
  | n + 1, b => if (getR b).2.2 ≠ 0 then ([], (getR b).2.2) else
      if (getAllN n (b.drop (getR b).2.1.toNat)).2 ≠ 0 then ([], (getAllN n (b.drop (getR b).2.1.toNat)).2) else ((getR b).1 :: (getAllN n (b.drop (getR b).2.1.toNat)).1, 0)
def getAllL (b : List Int) : List Rt × Int := getAllN b.length b
theorem getAllN_more {n : Nat} : ∀ {m : Nat} {b : List Int}, okB b → b.length ≤ n → n ≤ m → getAllN m b = getAllN n b := by
  induction n with
  | zero =>
    intro m b hb hl hm
    have : b = [] := List.length_eq_zero_iff.1 (by omega)
    subst this
    cases m <;> rfl
  | succ n ih =>
    intro m b hb hl hm
    cases m with
    | zero => omega
    | succ m =>
      cases b with
      | nil => rfl
      | cons x b =>
        simp only [getAllN]
        by_cases c : (getR (x :: b)).2.2 ≠ 0
        · rw [if_pos c, if_pos c]
        · rw [if_neg c, if_neg c]
          have h0 := (getR_rest hb (Decidable.not_not.1 c)).2
          rw [ih (okB_drop hb _) (by rw [List.length_drop]; omega) (by omega)]
theorem getAllL_nil : getAllL [] = ([], 0) := rfl
theorem getAllL_step {b : List Int} (hb : okB b) (hl : 0 < b.length) : getAllL b = if (getR b).2.2 ≠ 0 then ([], (getR b).2.2) else
      if (getAllL (b.drop (getR b).2.1.toNat)).2 ≠ 0 then ([], (getAllL (b.drop (getR b).2.1.toNat)).2) else ((getR b).1 :: (getAllL (b.drop (getR b).2.1.toNat)).1, 0) := by
  cases b with
  | nil => simp at hl
  | cons x b =>
    unfold getAllL
    rw [List.length_cons, getAllN]
    rotate_left
    · exact fun h => by cases h
    by_cases c : (getR (x :: b)).2.2 ≠ 0
    · rw [if_pos c, if_pos c]
    · rw [if_neg c, if_neg c]
      have h0 := (getR_rest hb (Decidable.not_not.1 c)).2
      have hle : ((x :: b).drop (getR (x :: b)).2.1.toNat).length ≤ b.length := by rw [List.length_drop, List.length_cons]; omega
      rw [getAllN_more (okB_drop hb _) (Nat.le_refl _) hle]
def putAllL (l : List Rt) : List Int := l.flatMap putR
theorem getAll_put (l : List Rt) (h : ∀ r ∈ l, goodR r = true) : getAllL (putAllL l) = (l, 0) ∧ okB (putAllL l) := by
  have okP : ∀ r : Rt, goodR r = true → okB (putR r) := by
    intro r hr
    obtain ⟨h0, h1, hs⟩ := goodR_iff.1 hr
    unfold putR putP
    rw [if_pos hr, if_pos hs]
    obtain ⟨_, h2, h3⟩ := sane_iff.1 hs
    have := wd_le r.2.2.1
    have h2 : 0 ≤ r.2.2.2.1 := h2
    have h3 : r.2.2.2.1 ≤ wd r.2.2.1 := h3
    intro x hx
    simp only [List.cons_append, List.mem_cons, List.mem_append, List.not_mem_nil, or_false] at hx
    rcases hx with rfl | rfl | hx | rfl | rfl
    · split <;> omega
    · omega
    · exact okB_take (okB_bytesB _ _) _ x hx
    · omega
    · omega
  induction l with
  | nil => exact ⟨rfl, fun x hx => by simp [putAllL] at hx⟩
  | cons r l ih =>
    obtain ⟨ih, ok⟩ := ih fun q hq => h q (by simp [hq])
    have hr := h r (by simp)
    have e : putAllL (r :: l) = putR r ++ putAllL l := rfl
    have hok : okB (putAllL (r :: l)) := by rw [e]; exact okB_append (okP r hr) ok
    refine ⟨?_, hok⟩
    have hlen := putR_length hr
    rw [getAllL_step hok (by rw [e, List.length_append]; omega), e, getR_putR hr]
    simp only [ne_eq, not_true_eq_false, if_false, Int.toNat_natCast, List.drop_left', ih]
theorem put_getAll (n : Nat) : ∀ {b : List Int}, okB b → b.length ≤ n → (getAllL b).2 = 0 → putAllL (getAllL b).1 = b ∧ ∀ r ∈ (getAllL b).1, goodR r = true ∧ wfP (rP r) := by
  induction n with
  | zero =>
    intro b hb hl _
    have : b = [] := List.length_eq_zero_iff.1 (by omega)
    subst this
    exact ⟨rfl, fun r hr => by simp [getAllL_nil] at hr⟩
  | succ n ih =>
    intro b hb hl h
    by_cases h0 : b.length = 0
    · have : b = [] := List.length_eq_zero_iff.1 h0
      subst this
      exact ⟨rfl, fun r hr => by simp [getAllL_nil] at hr⟩
    rw [getAllL_step hb (by omega)] at h ⊢
    by_cases c : (getR b).2.2 ≠ 0
    · rw [if_pos c] at h; exact absurd h c
    rw [if_neg c] at h ⊢
    by_cases c2 : (getAllL (b.drop (getR b).2.1.toNat)).2 ≠ 0
    · rw [if_pos c2] at h; exact absurd h c2
    rw [if_neg c2] at h ⊢
    have hc := Decidable.not_not.1 c
    obtain ⟨h1, h2⟩ := getR_rest hb hc
    obtain ⟨h3, h4, _⟩ := getR_ok hb hc
    obtain ⟨i1, i2⟩ := ih (okB_drop hb _) (by rw [List.length_drop]; omega) (Decidable.not_not.1 c2)
    refine ⟨?_, fun r hr => ?_⟩
    · show putR (getR b).1 ++ putAllL _ = b
      rw [i1, ← h1]
    · rcases List.mem_cons.1 hr with rfl | hr
      · exact ⟨h3, h4⟩
      · exact i2 r hr
theorem getAll_bad (n : Nat) : ∀ {b : List Int}, okB b → b.length ≤ n → (getAllL b).2 ≠ 0 → (getAllL b).1 = [] := by
  induction n with
  | zero =>
    intro b hb hl h
    have : b = [] := List.length_eq_zero_iff.1 (by omega)
    subst this
    exact absurd rfl h
  | succ n ih =>
    intro b hb hl h
    by_cases h0 : b.length = 0
    · have : b = [] := List.length_eq_zero_iff.1 h0
      subst this
      exact absurd rfl h
    rw [getAllL_step hb (by omega)] at h ⊢
    split
    · rfl
    · rename_i c
      rw [if_neg c] at h
      split
      · rfl
      · rename_i c2
        rw [if_neg c2] at h
        exact absurd rfl h
end Sp
end
section
set_option linter.all false
namespace Sp
open Go Go.Proofs Sx Go.Proofs.YthnhbnakpmkppaaGreat.Ma
@[reducible] def adV (a : Ad) : List A := [.l (.i .u64 a.1), .l (.i .u64 a.2.1), .l (.b a.2.2)]
@[reducible] def pfV (p : Pf) : List A := [.l (.i .u64 p.1), .l (.i .u64 p.2.1), .l (.b p.2.2.1), .l (.i .i64 p.2.2.2)]
@[reducible] def rtV (r : Rt) : List A := [.l (.i .u64 r.1), .l (.i .u64 r.2.1), .l (.b r.2.2.1), .l (.i .i64 r.2.2.2.1), .l (.i .i64 r.2.2.2.2)]
@[reducible] def u8K : List Kd := [.i .u8]
@[reducible] def intK : List Kd := [.i .i64]
@[reducible] def rtK : List Kd := [.i .u64, .i .u64, .b, .i .i64, .i .i64]
def most : Nat := 1000000
def MaskZ : Con := .pure (Ad × Int) (fun x => [.agg (adV x.1), .i .i64 x.2]) (fun x => wfA x.1) fun x => .v (.agg (adV (maskA x.1 x.2)))
def ReadZ : Con := .pure Ad (fun a => [.agg (adV a)]) wfA fun a => .v (.agg [.l (.i .u64 (canA a).1), .l (.i .u64 (canA a).2.1)])
def OfZ : Con := .pure (Ad × Int) (fun x => [.agg (adV x.1), .i .i64 x.2]) (fun x => wfA x.1) fun x => .v (.agg (pfV (ofPf x.1 x.2)))
def SaneZ : Con := .pure Pf (fun p => [.agg (pfV p)]) wfP fun p => .b (saneP p)
def WidthZ : Con := .pure Bool (fun b => [.b b]) (fun _ => True) fun b => .i .i64 (wd b : Int)
def BytesS : Con := .row1 Ad (fun a => [.agg (adV a)]) (fun _ => []) 0 wfA u8K bytesA fun _ a => .a a
def fromE (b : List Int) : Ad × Int := if b.length = 4 ∨ b.length = 16 then (fromL b, 0) else ((0, 0, false), 4)
def FromS : Con := .look (List Int) (fun b => [.one (.f 0 b.length)]) (fun b => [.row false u8K b]) okB fun b => .tup [.agg (adV (fromE b).1), .i .i64 (fromE b).2]
def CloneS (ks : List Kd) : Con := .row1 (List (Tup ks)) (fun b => [.one (.f 0 b.length)]) (fun b => [.row false ks b]) 1 (fun b => b.length ≤ most) ks (fun b => b) fun _ a => .a a
def PutS : Con := .row1 (List Int × Pf) (fun x => [.one (.f 0 x.1.length), .agg (pfV x.2)]) (fun x => [.row false u8K x.1]) 1 (fun x => x.1.length ≤ most ∧ wfP x.2) u8K (fun x => x.1 ++ putP x.2) fun _ a => .a a
def GetS : Con := .look (List Int) (fun b => [.one (.f 0 b.length)]) (fun b => [.row false u8K b]) (fun b => okB b ∧ b.length ≤ most) fun b => .tup [.agg (pfV (getP b).1), .i .i64 (getP b).2.1, .i .i64 (getP b).2.2]
def wfR (r : Rt) : Prop := wfP (rP r)
def GoodS : Con := .pure Rt (fun r => [.agg (rtV r)]) wfR fun r => .b (goodR r)
def PutRouteS : Con := .row1 (List Int × Rt) (fun x => [.one (.f 0 x.1.length), .agg (rtV x.2)]) (fun x => [.row false u8K x.1]) 1 (fun x => x.1.length ≤ most ∧ wfR x.2) u8K (fun x => x.1 ++ putR x.2) fun _ a => .a a
def GetRouteS : Con := .look (List Int) (fun b => [.one (.f 0 b.length)]) (fun b => [.row false u8K b]) (fun b => okB b ∧ b.length ≤ most) fun b => .tup [.agg (rtV (getR b).1), .i .i64 (getR b).2.1, .i .i64 (getR b).2.2]
def PutAllS : Con := .row1 (List Rt) (fun l => [.one (.f 0 l.length)]) (fun l => [.row false rtK l]) 1 (fun l => l.length ≤ 5000 ∧ ∀ r ∈ l, wfR r) u8K putAllL fun _ a => .a a
def GetAllS : Con := .row1 (List Int) (fun b => [.one (.f 0 b.length)]) (fun b => [.row false u8K b]) 1 (fun b => okB b ∧ b.length ≤ most) rtK (fun b => (getAllL b).1) fun b a => .tup [.one a, .i .i64 (getAllL b).2]
def W0 : List (Nat × Con) := [(38, SaneZ), (78, OfZ), (105, MaskZ), (117, ReadZ), (116, WidthZ)]
def W1 : List (Nat × Con) := (311, BytesS) :: (76, FromS) :: (310, CloneS u8K) :: W0
def W2 : List (Nat × Con) := (301, PutS) :: (156, GoodS) :: W1
def LqW : FuncId → Nat → Lan
  | 311, _ => .inv { X := Int × List Int, slots := [16], vals := fun x => [.i .i64 x.1], fix := [5], new := [], drop := [], obs := fun x => [.row true u8K x.2] }
  | 76, _ => .inv { X := Int × Int × Int, slots := [22], vals := fun x => [.i .i64 x.1], fix := [2], new := [], drop := [], obs := fun x => [.cells [.l (.i .u64 x.2.1), .l (.i .u64 x.2.2)]] }
  | _, _ => .none
end Sp
end
