/- Plain facts: words, bytes and addresses as digits, the highest first. Nothing of the program stands here. -/
import Derived.Test.YthnhbnakpmkppaaMa
set_option linter.all false
namespace Sp
open Go.Proofs.Ythnhbnakpmkppaa.Ma
def toB (w x : Nat) : List Bool := (List.range w).map fun i => x.testBit (w - 1 - i)
def valB (l : List Bool) : Nat := l.foldl (fun n b => 2 * n + b.toNat) 0
theorem toB_length (w x : Nat) : (toB w x).length = w := by simp [toB]
theorem toB_get (w x i : Nat) : (toB w x)[i]? = if i < w then some (x.testBit (w - 1 - i)) else none := by
  unfold toB
  rw [List.getElem?_map]
  by_cases h : i < w
  · rw [List.getElem?_range h, if_pos h]; rfl
  · rw [List.getElem?_eq_none (by simpa using h), if_neg h]; rfl
theorem valB_foldl (l : List Bool) : ∀ n, l.foldl (fun n b => 2 * n + b.toNat) n = n * 2 ^ l.length + valB l := by
  induction l with
  | nil => intro n; simp [valB]
  | cons b l ih =>
    intro n
    have h := ih (2 * 0 + b.toNat)
    simp only [valB, List.foldl_cons, List.length_cons] at *
    rw [ih, h, Nat.pow_succ, Nat.add_mul, Nat.mul_comm (2 ^ l.length) 2, ← Nat.mul_assoc]
    rw [Nat.mul_comm 2 n, Nat.mul_zero, Nat.zero_add]
    omega
theorem valB_nil : valB [] = 0 := rfl
theorem valB_cons (b : Bool) (l : List Bool) : valB (b :: l) = b.toNat * 2 ^ l.length + valB l := by
  have := valB_foldl l (2 * 0 + b.toNat)
  simp only [Nat.mul_zero, Nat.zero_add] at this
  simpa [valB] using this
theorem valB_append (l m : List Bool) : valB (l ++ m) = valB l * 2 ^ m.length + valB m := by
  have := valB_foldl m (valB l)
  simpa [valB, List.foldl_append] using this
theorem valB_lt (l : List Bool) : valB l < 2 ^ l.length := by
  induction l with
  | nil => simp [valB]
  | cons b l ih =>
    rw [valB_cons, List.length_cons, Nat.pow_succ]
    have := b.toNat_le
    have h : b.toNat * 2 ^ l.length ≤ 1 * 2 ^ l.length := Nat.mul_le_mul_right _ this
    omega
theorem valB_bit (l : List Bool) (i : Nat) (h : i < l.length) : (valB l).testBit (l.length - 1 - i) = l[i] := by
  induction l generalizing i with
  | nil => simp at h
  | cons b l ih =>
    rw [valB_cons, Nat.mul_comm, Nat.testBit_two_pow_mul_add _ (valB_lt l)]
    cases i with
    | zero =>
      simp only [List.length_cons, Nat.add_sub_cancel, Nat.sub_zero, Nat.lt_irrefl, if_false, Nat.sub_self, List.getElem_cons_zero]
      cases b <;> rfl
    | succ i =>
      have h' : i < l.length := by simpa using h
      have e : (b :: l).length - 1 - (i + 1) = l.length - 1 - i := by simp only [List.length_cons]; omega
      rw [e, if_pos (by omega), ih i h', List.getElem_cons_succ]
theorem toB_valB (l : List Bool) : toB l.length (valB l) = l := by
  apply List.ext_getElem?
  intro i
  rw [toB_get]
  by_cases h : i < l.length
  · rw [if_pos h, valB_bit l i h, List.getElem?_eq_getElem h]
  · rw [if_neg h, List.getElem?_eq_none (by omega)]
theorem toB_valB' {w : Nat} {l : List Bool} (h : l.length = w) : toB w (valB l) = l := by rw [← h]; exact toB_valB l
theorem toB_inj {w x y : Nat} (hx : x < 2 ^ w) (hy : y < 2 ^ w) (h : toB w x = toB w y) : x = y := by
  apply Nat.eq_of_testBit_eq
  intro j
  by_cases hj : j < w
  · have h1 := toB_get w x (w - 1 - j)
    have h2 := toB_get w y (w - 1 - j)
    rw [h, h2, if_pos (by omega), if_pos (by omega), show w - 1 - (w - 1 - j) = j by omega] at h1
    exact (Option.some.inj h1).symm
  · have e : ∀ z, z < 2 ^ w → z.testBit j = false := fun z hz => Nat.testBit_lt_two_pow (Nat.lt_of_lt_of_le hz (Nat.pow_le_pow_right (by omega) (by omega)))
    rw [e x hx, e y hy]
theorem valB_toB {w x : Nat} (h : x < 2 ^ w) : valB (toB w x) = x := by
  have h1 := valB_lt (toB w x)
  rw [toB_length] at h1
  exact toB_inj h1 h (toB_valB' (toB_length w x))
theorem toB_split (a b x : Nat) : toB (a + b) x = toB a (x / 2 ^ b) ++ toB b x := by
  apply List.ext_getElem?
  intro i
  rw [toB_get, List.getElem?_append, toB_length, toB_get, toB_get]
  by_cases h1 : i < a
  · rw [if_pos (by omega), if_pos h1, if_pos h1, Nat.testBit_div_two_pow]
    congr 2; omega
  · rw [if_neg h1]
    by_cases h2 : i < a + b
    · rw [if_pos h2, if_pos (by omega)]; congr 2; omega
    · rw [if_neg h2, if_neg (by omega)]
theorem toB_mod (a x : Nat) : toB a (x % 2 ^ a) = toB a x := by
  apply List.ext_getElem?
  intro i
  rw [toB_get, toB_get]
  split
  · rw [Nat.testBit_mod_two_pow]
    simp
    omega
  · rfl
def padr (n : Nat) (l : List Bool) : List Bool := l ++ List.replicate (n - l.length) false
theorem padr_length {n : Nat} {l : List Bool} (h : l.length ≤ n) : (padr n l).length = n := by simp [padr]; omega
theorem valB_zeros (n : Nat) : valB (List.replicate n false) = 0 := by
  induction n with
  | zero => rfl
  | succ n ih => rw [List.replicate_succ, valB_cons, ih]; simp
theorem toB_keepN (x h : Nat) (hh : h ≤ 64) : toB 64 (keepN x h) = padr 64 ((toB 64 x).take h) := by
  apply List.ext_getElem?
  intro i
  rw [toB_get]
  unfold padr
  rw [List.getElem?_append, List.length_take, toB_length, List.getElem?_take, toB_get, List.getElem?_replicate, bit_keepN]
  by_cases h1 : i < h
  · rw [if_pos (by omega), if_pos (by omega), if_pos h1, if_pos (by omega)]
    rw [show decide (64 - h ≤ 64 - 1 - i) = true by simp; omega]
    rfl
  · by_cases h2 : i < 64
    · rw [if_pos h2, if_neg (by omega), if_pos (by omega)]
      rw [show decide (64 - h ≤ 64 - 1 - i) = false by simp; omega]
      rfl
    · rw [if_neg h2, if_neg (by omega), if_neg (by omega)]
theorem keepN_val (x h : Nat) (hh : h ≤ 64) (hx : x < 2 ^ 64) : valB (padr 64 ((toB 64 x).take h)) = keepN x h := by
  rw [← toB_keepN x h hh, valB_toB (by have := keepN_lt x h (by simpa using hx); simpa using this)]

/-! ### addresses -/
abbrev Ad := Int × Int × Bool
def wd (v6 : Bool) : Nat := if v6 = true then 128 else 32
def wfW (x : Int) : Prop := 0 ≤ x ∧ x < 18446744073709551616
def wfA (a : Ad) : Prop := wfW a.1 ∧ wfW a.2.1
def bitsA (a : Ad) : List Bool := (toB 64 a.1.toNat ++ toB 64 a.2.1.toNat).take (wd a.2.2)
def ofB (v6 : Bool) (l : List Bool) : Ad := ((valB (padr 64 (l.take 64)) : Nat), (valB (padr 64 (l.drop 64)) : Nat), v6)
theorem bitsA_length (a : Ad) : (bitsA a).length = wd a.2.2 := by
  simp only [bitsA, List.length_take, List.length_append, toB_length, wd]
  split <;> omega
theorem wd_le (v6 : Bool) : wd v6 ≤ 128 := by unfold wd; split <;> omega
theorem padr_take (l : List Bool) : (padr 64 (l.take 64)).length = 64 := padr_length (by simp; omega)
theorem padr_drop {l : List Bool} (h : l.length ≤ 128) : (padr 64 (l.drop 64)).length = 64 := padr_length (by simp; omega)
theorem wfW_val {l : List Bool} (h : l.length = 64) : wfW (valB l : Nat) := by
  have := valB_lt l
  rw [h] at this
  unfold wfW
  omega
theorem wfA_ofB (v6 : Bool) {l : List Bool} (h : l.length ≤ 128) : wfA (ofB v6 l) := ⟨wfW_val (padr_take l), wfW_val (padr_drop h)⟩
theorem padr_split {l : List Bool} (h : l.length ≤ 128) : padr 64 (l.take 64) ++ padr 64 (l.drop 64) = padr 128 l := by
  unfold padr
  by_cases h1 : 64 ≤ l.length
  · have e : 64 - (l.take 64).length = 0 := by simp; omega
    rw [e, List.replicate_zero, List.append_nil, ← List.append_assoc, List.take_append_drop]
    congr 2
    simp; omega
  · rw [List.take_of_length_le (by omega), List.drop_of_length_le (by omega), List.nil_append, List.append_assoc, List.replicate_append_replicate]
    congr 2
    simp; omega
theorem words_ofB (v6 : Bool) {l : List Bool} (h : l.length ≤ 128) : toB 64 (ofB v6 l).1.toNat ++ toB 64 (ofB v6 l).2.1.toNat = padr 128 l := by
  simp only [ofB, Int.toNat_natCast]
  rw [toB_valB' (padr_take l), toB_valB' (padr_drop h), padr_split h]
theorem bitsA_ofB (v6 : Bool) {l : List Bool} (h : l.length ≤ wd v6) : bitsA (ofB v6 l) = padr (wd v6) l := by
  have hw := wd_le v6
  unfold bitsA
  rw [words_ofB v6 (by omega)]
  show (padr 128 l).take (wd v6) = _
  unfold padr
  rw [List.take_append, List.take_of_length_le h, List.take_replicate]
  congr 2
  omega
theorem bitsA_ofB_full (v6 : Bool) {l : List Bool} (h : l.length = wd v6) : bitsA (ofB v6 l) = l := by
  rw [bitsA_ofB v6 (by omega)]
  unfold padr
  rw [h, Nat.sub_self]
  simp
/-- An address without what is no digit of it. -/
def canA (a : Ad) : Ad := ofB a.2.2 (bitsA a)
def saneA (a : Ad) : Bool := decide (canA a = a)
theorem bitsA_can (a : Ad) : bitsA (canA a) = bitsA a := bitsA_ofB_full _ (bitsA_length a)
theorem ofB_inj {v6 : Bool} {l m : List Bool} (hl : l.length ≤ wd v6) (hm : m.length ≤ wd v6) (h : ofB v6 l = ofB v6 m) : padr (wd v6) l = padr (wd v6) m := by
  rw [← bitsA_ofB v6 hl, h, bitsA_ofB v6 hm]
theorem padr_inj {n : Nat} {l m : List Bool} (h : l.length = m.length) (he : padr n l = padr n m) : l = m := by
  have := congrArg (List.take l.length) he
  unfold padr at this
  rw [List.take_left, h, List.take_left] at this
  exact this
theorem words_eq {a : Ad} (h : wfA a) : toB 64 a.1.toNat ++ toB 64 a.2.1.toNat = padr 128 (bitsA a) ↔ saneA a = true := by
  unfold saneA
  rw [decide_eq_true_eq]
  obtain ⟨⟨h1, h2⟩, h3, h4⟩ := h
  constructor
  · intro he
    have hl : (bitsA a).length ≤ 128 := by rw [bitsA_length]; exact wd_le _
    rw [← padr_split hl] at he
    have e1 := congrArg (List.take 64) he
    have e2 := congrArg (List.drop 64) he
    rw [List.take_left' (toB_length _ _), List.take_left' (padr_take _)] at e1
    rw [List.drop_left' (toB_length _ _), List.drop_left' (padr_take _)] at e2
    obtain ⟨hi, lo, v6⟩ := a
    have f1 : ((valB (padr 64 ((bitsA (hi, lo, v6)).take 64)) : Nat) : Int) = hi := by
      rw [← e1, valB_toB (by simp only at h1 h2 ⊢; omega)]; simp only at h1 h2 ⊢; omega
    have f2 : ((valB (padr 64 ((bitsA (hi, lo, v6)).drop 64)) : Nat) : Int) = lo := by
      rw [← e2, valB_toB (by simp only at h3 h4 ⊢; omega)]; simp only at h3 h4 ⊢; omega
    show (_, _, v6) = _
    rw [f1, f2]
  · intro he
    conv => lhs; rw [← he]
    exact words_ofB _ (by rw [bitsA_length]; exact wd_le _)
/-- An address with so many of its digits, and 0 behind. -/
def maskA (a : Ad) (n : Int) : Ad := ofB a.2.2 ((bitsA a).take n.toNat)
theorem maskA_eq (hi lo : Nat) (v6 : Bool) (n : Int) (h1 : hi < 18446744073709551616) (h2 : lo < 18446744073709551616) :
    maskA ((hi : Int), (lo : Int), v6) n = (((keepN hi (min (min n.toNat (wd v6)) 64) : Nat) : Int), ((keepN lo (min n.toNat (wd v6) - 64) : Nat) : Int), v6) := by
  have hw := wd_le v6
  unfold maskA ofB bitsA
  simp only [Int.toNat_natCast, List.take_take]
  generalize hc : min n.toNat (wd v6) = c
  have hc' : c ≤ 128 := by omega
  have e1 : (toB 64 hi ++ toB 64 lo).take (min 64 c) = (toB 64 hi).take (min c 64) := by
    rw [Nat.min_comm, List.take_append_of_le_length (by rw [toB_length]; omega)]
  have e2 : ((toB 64 hi ++ toB 64 lo).take c).drop 64 = (toB 64 lo).take (c - 64) := by
    rw [List.drop_take, List.drop_left' (toB_length _ _)]
  rw [e1, e2, keepN_val hi _ (by omega) (by simpa using h1), keepN_val lo _ (by omega) (by simpa using h2)]
/-! ### bytes -/
def okB (l : List Int) : Prop := ∀ x ∈ l, 0 ≤ x ∧ x ≤ 255
def bitsL (l : List Int) : List Bool := l.flatMap fun x => toB 8 x.toNat
def bytesB : Nat → List Bool → List Int
  | 0, _ => []
  | n + 1, l => (valB (l.take 8) : Int) :: bytesB n (l.drop 8)
theorem bytesB_length (n : Nat) : ∀ l, (bytesB n l).length = n := by
  induction n with
  | zero => intro l; rfl
  | succ n ih => intro l; simp [bytesB, ih]
theorem bitsL_length (l : List Int) : (bitsL l).length = 8 * l.length := by
  induction l with
  | nil => rfl
  | cons x l ih => simp only [bitsL, List.flatMap_cons, List.length_append, toB_length, List.length_cons] at *; omega
theorem bitsL_cons (x : Int) (l : List Int) : bitsL (x :: l) = toB 8 x.toNat ++ bitsL l := rfl
theorem bitsL_append (l m : List Int) : bitsL (l ++ m) = bitsL l ++ bitsL m := by simp [bitsL]
theorem bitsL_bytesB (n : Nat) : ∀ {l : List Bool}, l.length = 8 * n → bitsL (bytesB n l) = l := by
  induction n with
  | zero => intro l h; have : l = [] := List.length_eq_zero_iff.1 (by omega); subst this; rfl
  | succ n ih =>
    intro l h
    rw [bytesB, bitsL_cons, ih (by simp; omega), Int.toNat_natCast, toB_valB' (by simp; omega), List.take_append_drop]
theorem bytesB_bitsL {l : List Int} (h : okB l) : bytesB l.length (bitsL l) = l := by
  induction l with
  | nil => rfl
  | cons x l ih =>
    have hx := h x (by simp)
    rw [List.length_cons, bytesB, bitsL_cons, List.take_left' (toB_length _ _), List.drop_left' (toB_length _ _), ih fun y hy => h y (by simp [hy]), valB_toB (by omega)]
    congr 1
    omega
theorem okB_bytesB (n : Nat) : ∀ l, okB (bytesB n l) := by
  induction n with
  | zero => intro l x hx; simp [bytesB] at hx
  | succ n ih =>
    intro l x hx
    rcases List.mem_cons.1 hx with rfl | hx
    · have := valB_lt (l.take 8)
      have h8 : (l.take 8).length ≤ 8 := by simp; omega
      have := Nat.lt_of_lt_of_le this (Nat.pow_le_pow_right (by omega) h8)
      omega
    · exact ih _ x hx
theorem okB_append {l m : List Int} (h : okB l) (h' : okB m) : okB (l ++ m) := fun x hx => (List.mem_append.1 hx).elim (h x) (h' x)
theorem okB_take {l : List Int} (h : okB l) (n : Nat) : okB (l.take n) := fun x hx => h x (List.mem_of_mem_take hx)
theorem okB_drop {l : List Int} (h : okB l) (n : Nat) : okB (l.drop n) := fun x hx => h x (List.mem_of_mem_drop hx)
theorem okB_zeros (n : Nat) : okB (List.replicate n 0) := fun x hx => by rw [List.eq_of_mem_replicate hx]; omega
theorem okB_getD {l : List Int} (h : okB l) (i : Nat) : 0 ≤ l.getD i 0 ∧ l.getD i 0 ≤ 255 := by
  rw [List.getD_eq_getElem?_getD]
  cases hq : l[i]? with
  | none => simp
  | some x => exact h x (List.mem_of_getElem? hq)
/-- An address's bytes; bytes as an address. -/
def bytesA (a : Ad) : List Int := bytesB (wd a.2.2 / 8) (bitsA a)
def fromL (l : List Int) : Ad := ofB (decide (l.length = 16)) (bitsL l)
theorem bytesA_length (a : Ad) : (bytesA a).length = wd a.2.2 / 8 := bytesB_length _ _
theorem bitsL_bytesA (a : Ad) : bitsL (bytesA a) = bitsA a := by
  unfold bytesA
  refine bitsL_bytesB _ ?_
  rw [bitsA_length]
  unfold wd
  split <;> rfl
theorem fromL_bytesA (a : Ad) : fromL (bytesA a) = canA a := by
  unfold fromL canA
  rw [bytesA_length, bitsL_bytesA]
  congr 1
  unfold wd
  cases a.2.2 <;> rfl
theorem bytesA_fromL {l : List Int} (h : okB l) (hl : l.length = 4 ∨ l.length = 16) : bytesA (fromL l) = l := by
  have e : (fromL l).2.2 = decide (l.length = 16) := rfl
  have hb : (bitsL l).length = wd (decide (l.length = 16)) := by
    rw [bitsL_length]
    unfold wd
    rcases hl with h | h <;> rw [h] <;> rfl
  unfold bytesA
  rw [e]
  have : bitsA (fromL l) = bitsL l := bitsA_ofB_full _ hb
  rw [this, ← hb, bitsL_length, Nat.mul_div_cancel_left _ (by omega), bytesB_bitsL h]
/-! ### words with a sign -/
open Go
theorem i64_or_nat (a b : Nat) (ha : a < 9223372036854775808) (hb : b < 9223372036854775808) : bits .or .i64 (a : Int) (b : Int) = ((a ||| b : Nat) : Int) := by
  have hx : a ||| b < 2 ^ 63 := Nat.or_lt_two_pow (by omega) (by omega)
  show IntKind.i64.wrap ((BitVec.ofInt 64 (a : Int) ||| BitVec.ofInt 64 (b : Int)).toNat : Int) = _
  rw [BitVec.toNat_or, ofInt_u64 a (by omega), ofInt_u64 b (by omega), IntKind.wrap_i64]
  omega
theorem i64_and_nat (a b : Nat) (ha : a < 9223372036854775808) (hb : b < 9223372036854775808) : bits .and .i64 (a : Int) (b : Int) = ((a &&& b : Nat) : Int) := by
  have hx : a &&& b < 2 ^ 63 := Nat.and_lt_two_pow _ (by omega)
  show IntKind.i64.wrap ((BitVec.ofInt 64 (a : Int) &&& BitVec.ofInt 64 (b : Int)).toNat : Int) = _
  rw [BitVec.toNat_and, ofInt_u64 a (by omega), ofInt_u64 b (by omega), IntKind.wrap_i64]
  omega
end Sp
