/- Plain facts on words of sixty-four digits: the first digits of one. Nothing of the program stands here. -/
import Derived.Laws.BitsAllLaws
import Derived.IntWalk
set_option linter.all false
namespace Go.Proofs.Ythnhbnakpmkppaa.Ma
/-- A word whose first h digits are 1. -/
def topN (h : Nat) : Nat := (2 ^ h - 1) * 2 ^ (64 - h)
/-- The first h digits of a word. -/
def keepN (x h : Nat) : Nat := x / 2 ^ (64 - h) * 2 ^ (64 - h)
/-- Digits from m on, below c. -/
def onesN (c m : Nat) : Nat := topN c &&& (18446744073709551615 - topN m)

theorem keepN_le (x h : Nat) : keepN x h ≤ x := Nat.div_mul_le_self _ _
theorem keepN_all (x h : Nat) (hh : 64 ≤ h) : keepN x h = x := by unfold keepN; rw [show 64 - h = 0 from by omega]; simp
theorem keepN_none (x : Nat) (hx : x < 18446744073709551616) : keepN x 0 = 0 := by
  unfold keepN
  rw [Nat.div_eq_of_lt (by simpa using hx), Nat.zero_mul]
theorem bit_keepN (x h j : Nat) : (keepN x h).testBit j = (decide (64 - h ≤ j) && x.testBit j) := by
  unfold keepN
  rw [← Nat.shiftRight_eq_div_pow, ← Nat.shiftLeft_eq, Nat.testBit_shiftLeft, Nat.testBit_shiftRight]
  by_cases hj : 64 - h ≤ j
  · simp [hj]
  · simp [hj]
theorem bit_topN (h j : Nat) : (topN h).testBit j = (decide (64 - h ≤ j) && decide (j - (64 - h) < h)) := by
  unfold topN
  rw [← Nat.shiftLeft_eq, Nat.testBit_shiftLeft, Nat.testBit_two_pow_sub_one]
theorem topN_lt (h : Nat) (hh : h ≤ 64) : topN h < 18446744073709551616 := by
  unfold topN
  have h1 : 2 ^ h * 2 ^ (64 - h) = 18446744073709551616 := by rw [← Nat.pow_add, show h + (64 - h) = 64 from by omega]
  have h2 : 0 < 2 ^ (64 - h) := Nat.two_pow_pos _
  rw [Nat.sub_mul, Nat.one_mul]
  have h3 : 2 ^ (64 - h) ≤ 2 ^ h * 2 ^ (64 - h) := Nat.le_mul_of_pos_left _ (Nat.two_pow_pos _)
  omega
theorem topN_zero : topN 0 = 0 := by decide
theorem bit_not (x j : Nat) (hx : x < 18446744073709551616) : (18446744073709551615 - x).testBit j = (decide (j < 64) && !x.testBit j) := by
  have := Nat.testBit_two_pow_sub_succ (x := x) (n := 64) (by simpa using hx) j
  rw [← this]
  congr 1
  rw [show (2 : Nat) ^ 64 = 18446744073709551616 from rfl]
  omega
theorem onesN_lt (c m : Nat) (hc : c ≤ 64) : onesN c m < 18446744073709551616 := Nat.lt_of_le_of_lt Nat.and_le_left (topN_lt c hc)
theorem bit_high (x j : Nat) (hx : x < 18446744073709551616) (hj : 64 ≤ j) : x.testBit j = false := Nat.testBit_lt_two_pow (Nat.lt_of_lt_of_le hx (by have := Nat.pow_le_pow_right (n := 2) (by omega) hj; simpa using this))
theorem keepN_lt (x h : Nat) (hx : x < 18446744073709551616) : keepN x h < 18446744073709551616 := Nat.lt_of_le_of_lt (keepN_le x h) hx
theorem and_onesN (x c : Nat) (hx : x < 18446744073709551616) (hc : c ≤ 64) : x &&& onesN c 0 = keepN x c := by
  apply Nat.eq_of_testBit_eq
  intro j
  unfold onesN
  rw [Nat.testBit_and, Nat.testBit_and, bit_topN, bit_not _ _ (by rw [topN_zero]; omega), topN_zero, bit_keepN]
  by_cases hj : 64 ≤ j
  · rw [bit_high x j hx hj]; simp
  · by_cases h1 : 64 - c ≤ j
    · have h2 : j - (64 - c) < c := by omega
      have h3 : j < 64 := by omega
      simp [h1, h2, h3]
    · simp [h1]
theorem andNot_onesN (x c m : Nat) (hx : x < 18446744073709551616) (hc : c ≤ 64) (hm : m ≤ c) : keepN x c &&& (18446744073709551615 - onesN c m) = keepN x m := by
  apply Nat.eq_of_testBit_eq
  intro j
  rw [Nat.testBit_and, bit_keepN, bit_not _ _ (onesN_lt c m hc), bit_keepN]
  unfold onesN
  rw [Nat.testBit_and, bit_topN, bit_not _ _ (topN_lt m (by omega)), bit_topN]
  by_cases hj : 64 ≤ j
  · rw [bit_high x j hx hj]; simp
  · have h3 : j < 64 := by omega
    by_cases h1 : 64 - m ≤ j
    · have h2 : 64 - c ≤ j := by omega
      have h4 : j - (64 - c) < c := by omega
      have h5 : j - (64 - m) < m := by omega
      simp [h1, h2, h3, h4, h5]
    · by_cases h2 : 64 - c ≤ j
      · have h4 : j - (64 - c) < c := by omega
        simp [h1, h2, h3, h4]
      · simp [h1, h2]
theorem high_val (n : Nat) (h0 : 0 < n) (h1 : n ≤ 64) : IntKind.u64.wrap (18446744073709551615 * 2 ^ (64 - n)) = ((topN n : Nat) : Int) := by
  have hk : (18446744073709551615 * 2 ^ (64 - n) : Int) = ((18446744073709551615 * 2 ^ (64 - n) : Nat) : Int) := by
    rw [Int.natCast_mul, Int.natCast_pow]; rfl
  rw [hk, IntKind.wrap_u64]
  have e1 : 2 ^ n * 2 ^ (64 - n) = 18446744073709551616 := by rw [← Nat.pow_add, show n + (64 - n) = 64 from by omega]
  have e2 : 18446744073709551615 * 2 ^ (64 - n) = topN n + 18446744073709551616 * (2 ^ (64 - n) - 1) := by
    unfold topN
    have h3 : 0 < 2 ^ (64 - n) := Nat.two_pow_pos _
    obtain ⟨p, hp⟩ : ∃ p, 2 ^ (64 - n) = p + 1 := ⟨2 ^ (64 - n) - 1, by omega⟩
    have h4 : 2 ^ (64 - n) ≤ 2 ^ n * 2 ^ (64 - n) := Nat.le_mul_of_pos_left _ (Nat.two_pow_pos _)
    rw [Nat.sub_mul, e1, Nat.one_mul, hp, Nat.add_sub_cancel]
    omega
  rw [e2]
  have := topN_lt n h1
  omega
theorem or_join (q k b : Nat) (hb : b < 2 ^ k) (h : q * 2 ^ k + b < 18446744073709551616) : bits .or .u64 ((q * 2 ^ k : Nat) : Int) ((b : Nat) : Int) = ((q * 2 ^ k + b : Nat) : Int) := by
  rw [u64_or_nat _ _ (by omega) (Nat.lt_of_le_of_lt (Nat.le_add_left _ _) h)]
  have h2 := Nat.shiftLeft_add_eq_or_of_lt (i := k) hb q
  rw [Nat.shiftLeft_eq] at h2
  rw [h2]
theorem or_4 (b0 b1 b2 b3 : Nat) (h0 : b0 < 256) (h1 : b1 < 256) (h2 : b2 < 256) (h3 : b3 < 256) : bits .or .u64 (bits .or .u64 (bits .or .u64 (bits .or .u64 0 ((b0 : Int) * 72057594037927936)) ((b1 : Int) * 281474976710656)) ((b2 : Int) * 1099511627776)) ((b3 : Int) * 4294967296) = ((b0 * 72057594037927936 + b1 * 281474976710656 + b2 * 1099511627776 + b3 * 4294967296 : Nat) : Int) := by
  have e0 : bits .or .u64 ((0 : Nat) : Int) ((b0 : Int) * 72057594037927936) = ((b0 * 72057594037927936 : Nat) : Int) := by
    have := or_join 0 64 (b0 * 72057594037927936) (by omega) (by omega)
    rw [Nat.zero_mul, Nat.zero_add] at this
    rw [← this]
    congr 1
  have e1 : bits .or .u64 ((b0 * 72057594037927936 : Nat) : Int) ((b1 : Int) * 281474976710656) = ((b0 * 72057594037927936 + b1 * 281474976710656 : Nat) : Int) := by
    have := or_join (b0) 56 (b1 * 281474976710656) (by omega) (by omega)
    rw [show (b0) * 2 ^ 56 = b0 * 72057594037927936 from by omega] at this
    exact this
  have e2 : bits .or .u64 ((b0 * 72057594037927936 + b1 * 281474976710656 : Nat) : Int) ((b2 : Int) * 1099511627776) = ((b0 * 72057594037927936 + b1 * 281474976710656 + b2 * 1099511627776 : Nat) : Int) := by
    have := or_join (b0 * 256 + b1) 48 (b2 * 1099511627776) (by omega) (by omega)
    rw [show (b0 * 256 + b1) * 2 ^ 48 = b0 * 72057594037927936 + b1 * 281474976710656 from by omega] at this
    exact this
  have e3 : bits .or .u64 ((b0 * 72057594037927936 + b1 * 281474976710656 + b2 * 1099511627776 : Nat) : Int) ((b3 : Int) * 4294967296) = ((b0 * 72057594037927936 + b1 * 281474976710656 + b2 * 1099511627776 + b3 * 4294967296 : Nat) : Int) := by
    have := or_join (b0 * 65536 + b1 * 256 + b2) 40 (b3 * 4294967296) (by omega) (by omega)
    rw [show (b0 * 65536 + b1 * 256 + b2) * 2 ^ 40 = b0 * 72057594037927936 + b1 * 281474976710656 + b2 * 1099511627776 from by omega] at this
    exact this
  rw [show (0 : Int) = ((0 : Nat) : Int) from rfl, e0, e1, e2, e3]
theorem or_8 (b0 b1 b2 b3 b4 b5 b6 b7 : Nat) (h0 : b0 < 256) (h1 : b1 < 256) (h2 : b2 < 256) (h3 : b3 < 256) (h4 : b4 < 256) (h5 : b5 < 256) (h6 : b6 < 256) (h7 : b7 < 256) : bits .or .u64 (bits .or .u64 (bits .or .u64 (bits .or .u64 (bits .or .u64 (bits .or .u64 (bits .or .u64 (bits .or .u64 0 ((b0 : Int) * 72057594037927936)) ((b1 : Int) * 281474976710656)) ((b2 : Int) * 1099511627776)) ((b3 : Int) * 4294967296)) ((b4 : Int) * 16777216)) ((b5 : Int) * 65536)) ((b6 : Int) * 256)) (b7 : Int) = ((b0 * 72057594037927936 + b1 * 281474976710656 + b2 * 1099511627776 + b3 * 4294967296 + b4 * 16777216 + b5 * 65536 + b6 * 256 + b7 : Nat) : Int) := by
  have e0 : bits .or .u64 ((0 : Nat) : Int) ((b0 : Int) * 72057594037927936) = ((b0 * 72057594037927936 : Nat) : Int) := by
    have := or_join 0 64 (b0 * 72057594037927936) (by omega) (by omega)
    rw [Nat.zero_mul, Nat.zero_add] at this
    rw [← this]
    congr 1
  have e1 : bits .or .u64 ((b0 * 72057594037927936 : Nat) : Int) ((b1 : Int) * 281474976710656) = ((b0 * 72057594037927936 + b1 * 281474976710656 : Nat) : Int) := by
    have := or_join (b0) 56 (b1 * 281474976710656) (by omega) (by omega)
    rw [show (b0) * 2 ^ 56 = b0 * 72057594037927936 from by omega] at this
    exact this
  have e2 : bits .or .u64 ((b0 * 72057594037927936 + b1 * 281474976710656 : Nat) : Int) ((b2 : Int) * 1099511627776) = ((b0 * 72057594037927936 + b1 * 281474976710656 + b2 * 1099511627776 : Nat) : Int) := by
    have := or_join (b0 * 256 + b1) 48 (b2 * 1099511627776) (by omega) (by omega)
    rw [show (b0 * 256 + b1) * 2 ^ 48 = b0 * 72057594037927936 + b1 * 281474976710656 from by omega] at this
    exact this
  have e3 : bits .or .u64 ((b0 * 72057594037927936 + b1 * 281474976710656 + b2 * 1099511627776 : Nat) : Int) ((b3 : Int) * 4294967296) = ((b0 * 72057594037927936 + b1 * 281474976710656 + b2 * 1099511627776 + b3 * 4294967296 : Nat) : Int) := by
    have := or_join (b0 * 65536 + b1 * 256 + b2) 40 (b3 * 4294967296) (by omega) (by omega)
    rw [show (b0 * 65536 + b1 * 256 + b2) * 2 ^ 40 = b0 * 72057594037927936 + b1 * 281474976710656 + b2 * 1099511627776 from by omega] at this
    exact this
  have e4 : bits .or .u64 ((b0 * 72057594037927936 + b1 * 281474976710656 + b2 * 1099511627776 + b3 * 4294967296 : Nat) : Int) ((b4 : Int) * 16777216) = ((b0 * 72057594037927936 + b1 * 281474976710656 + b2 * 1099511627776 + b3 * 4294967296 + b4 * 16777216 : Nat) : Int) := by
    have := or_join (b0 * 16777216 + b1 * 65536 + b2 * 256 + b3) 32 (b4 * 16777216) (by omega) (by omega)
    rw [show (b0 * 16777216 + b1 * 65536 + b2 * 256 + b3) * 2 ^ 32 = b0 * 72057594037927936 + b1 * 281474976710656 + b2 * 1099511627776 + b3 * 4294967296 from by omega] at this
    exact this
  have e5 : bits .or .u64 ((b0 * 72057594037927936 + b1 * 281474976710656 + b2 * 1099511627776 + b3 * 4294967296 + b4 * 16777216 : Nat) : Int) ((b5 : Int) * 65536) = ((b0 * 72057594037927936 + b1 * 281474976710656 + b2 * 1099511627776 + b3 * 4294967296 + b4 * 16777216 + b5 * 65536 : Nat) : Int) := by
    have := or_join (b0 * 4294967296 + b1 * 16777216 + b2 * 65536 + b3 * 256 + b4) 24 (b5 * 65536) (by omega) (by omega)
    rw [show (b0 * 4294967296 + b1 * 16777216 + b2 * 65536 + b3 * 256 + b4) * 2 ^ 24 = b0 * 72057594037927936 + b1 * 281474976710656 + b2 * 1099511627776 + b3 * 4294967296 + b4 * 16777216 from by omega] at this
    exact this
  have e6 : bits .or .u64 ((b0 * 72057594037927936 + b1 * 281474976710656 + b2 * 1099511627776 + b3 * 4294967296 + b4 * 16777216 + b5 * 65536 : Nat) : Int) ((b6 : Int) * 256) = ((b0 * 72057594037927936 + b1 * 281474976710656 + b2 * 1099511627776 + b3 * 4294967296 + b4 * 16777216 + b5 * 65536 + b6 * 256 : Nat) : Int) := by
    have := or_join (b0 * 1099511627776 + b1 * 4294967296 + b2 * 16777216 + b3 * 65536 + b4 * 256 + b5) 16 (b6 * 256) (by omega) (by omega)
    rw [show (b0 * 1099511627776 + b1 * 4294967296 + b2 * 16777216 + b3 * 65536 + b4 * 256 + b5) * 2 ^ 16 = b0 * 72057594037927936 + b1 * 281474976710656 + b2 * 1099511627776 + b3 * 4294967296 + b4 * 16777216 + b5 * 65536 from by omega] at this
    exact this
  have e7 : bits .or .u64 ((b0 * 72057594037927936 + b1 * 281474976710656 + b2 * 1099511627776 + b3 * 4294967296 + b4 * 16777216 + b5 * 65536 + b6 * 256 : Nat) : Int) (b7 : Int) = ((b0 * 72057594037927936 + b1 * 281474976710656 + b2 * 1099511627776 + b3 * 4294967296 + b4 * 16777216 + b5 * 65536 + b6 * 256 + b7 : Nat) : Int) := by
    have := or_join (b0 * 281474976710656 + b1 * 1099511627776 + b2 * 4294967296 + b3 * 16777216 + b4 * 65536 + b5 * 256 + b6) 8 (b7) (by omega) (by omega)
    rw [show (b0 * 281474976710656 + b1 * 1099511627776 + b2 * 4294967296 + b3 * 16777216 + b4 * 65536 + b5 * 256 + b6) * 2 ^ 8 = b0 * 72057594037927936 + b1 * 281474976710656 + b2 * 1099511627776 + b3 * 4294967296 + b4 * 16777216 + b5 * 65536 + b6 * 256 from by omega] at this
    exact this
  rw [show (0 : Int) = ((0 : Nat) : Int) from rfl, e0, e1, e2, e3, e4, e5, e6, e7]
end Go.Proofs.Ythnhbnakpmkppaa.Ma
