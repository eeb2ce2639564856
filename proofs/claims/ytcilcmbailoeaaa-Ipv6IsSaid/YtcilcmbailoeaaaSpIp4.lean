/- Plain facts: sums of words, packets of the fourth version. Nothing of the program stands here. -/
import Derived.Test.YtcilcmbailoeaaaSpWire
set_option linter.all false
set_option maxRecDepth 10000
namespace Sp
open Go
/-! ### sums -/
def wsum : List Int → Int
  | [] => 0
  | [a] => a * 256
  | a :: b :: l => a * 256 + b + wsum l
def foldZ (n : Int) : Int := if n ≤ 0 then 0 else (n - 1) % 65535 + 1
def sumZ (b : List Int) : Int := 65535 - foldZ (wsum b)
def patchZ (s w i : Int) : Int := 65535 - foldZ ((65535 - s) + (65535 - w) + i)
theorem foldZ_range (n : Int) : 0 ≤ foldZ n ∧ foldZ n ≤ 65535 := by unfold foldZ; split <;> omega
theorem foldZ_step {n : Int} (h0 : 65535 < n) : foldZ (n % 65536 + n / 65536) = foldZ n := by
  unfold foldZ
  rw [if_neg (by omega), if_neg (by omega)]
  omega
theorem foldZ_small {n : Int} (h0 : 0 ≤ n) (h1 : n ≤ 65535) : foldZ n = n := by unfold foldZ; split <;> omega
theorem foldZ_eq {m n : Int} (hm : 0 < m) (hn : 0 < n) (h : m % 65535 = n % 65535) : foldZ m = foldZ n := by
  unfold foldZ
  rw [if_neg (by omega), if_neg (by omega)]
  omega
theorem foldZ_full (n : Int) : foldZ n = 65535 ↔ 0 < n ∧ n % 65535 = 0 := by unfold foldZ; split <;> omega
theorem wsum_nonneg : ∀ (b : List Int), okB b → 0 ≤ wsum b
  | [], _ => by simp [wsum]
  | [a], h => by have := h a (by simp); simp only [wsum]; omega
  | a :: b :: l, h => by
    have h1 := h a (by simp)
    have h2 := h b (by simp)
    have h3 := wsum_nonneg l fun x hx => h x (by simp [hx])
    simp only [wsum]
    omega
theorem wsum_le : ∀ (b : List Int), okB b → wsum b ≤ 65535 * b.length
  | [], _ => by simp [wsum]
  | [a], h => by have := h a (by simp); simp only [wsum, List.length_cons, List.length_nil]; omega
  | a :: b :: l, h => by
    have h1 := h a (by simp)
    have h2 := h b (by simp)
    have h3 := wsum_le l fun x hx => h x (by simp [hx])
    simp only [wsum, List.length_cons]
    omega
/-- What a byte weighs. -/
def wt (i : Nat) : Int := if i % 2 = 0 then 256 else 1
theorem wsum_set : ∀ (b : List Int) (i : Nat) (x : Int), i < b.length → wsum (b.set i x) = wsum b + wt i * (x - b.getD i 0)
  | [a], 0, x, _ => by
    show x * 256 = a * 256 + 256 * (x - a)
    omega
  | a :: b :: l, 0, x, _ => by
    show x * 256 + b + wsum l = a * 256 + b + wsum l + 256 * (x - a)
    omega
  | a :: b :: l, 1, x, _ => by
    show a * 256 + x + wsum l = a * 256 + b + wsum l + 1 * (x - b)
    omega
  | a :: b :: l, i + 2, x, h => by
    have := wsum_set l i x (by simpa using h)
    have e : wt (i + 2) = wt i := by unfold wt; simp
    show a * 256 + b + wsum (l.set i x) = a * 256 + b + wsum l + wt (i + 2) * (x - l.getD i 0)
    rw [e, this]
    omega
  | [a], i + 1, x, h => by simp at h
/-! ### packets -/
abbrev Hd := Int × Int × Int × Int × Int × Int × Bool × Int × Int × Bool
@[reducible] def hSrc (h : Hd) : Ad := (h.2.2.2.2.1, h.2.2.2.2.2.1, h.2.2.2.2.2.2.1)
@[reducible] def hDst (h : Hd) : Ad := (h.2.2.2.2.2.2.2.1, h.2.2.2.2.2.2.2.2.1, h.2.2.2.2.2.2.2.2.2)
@[reducible] def mkH (l t i p : Int) (s d : Ad) : Hd := (l, t, i, p, s.1, s.2.1, s.2.2, d.1, d.2.1, d.2.2)
def zH : Hd := (0, 0, 0, 0, 0, 0, false, 0, 0, false)
def wordZ (b : List Int) (i : Nat) : Int := b.getD i 0 * 256 + b.getD (i + 1) 0
def readH (b : List Int) : Hd := mkH (b.getD 0 0 % 16 * 4) (wordZ b 2) (b.getD 8 0) (b.getD 9 0) (fromL ((b.drop 12).take 4)) (fromL ((b.drop 16).take 4))
def strangeZ (s d : Int) : Bool := decide (s = 127) || (decide (224 ≤ s) || decide (d = 0))
def parse4 (b : List Int) : Hd × Int :=
  if b.length < 20 then (zH, 1)
  else if b.getD 0 0 / 16 ≠ 4 then (zH, 2)
  else if (readH b).1 < 20 ∨ (b.length : Int) < (readH b).1 then (zH, 3)
  else if (readH b).2.1 < (readH b).1 ∨ (b.length : Int) < (readH b).2.1 then (zH, 4)
  else if sumZ (b.take (readH b).1.toNat) ≠ 0 then (zH, 5)
  else if strangeZ (b.getD 12 0) (b.getD 16 0) = true then (zH, 6)
  else (readH b, 0)
def put2 (b : List Int) (i : Nat) (w : Int) : List Int := (b.set i (w / 256)).set (i + 1) (w % 256)
def hop4 (b : List Int) : List Int × Bool :=
  if (parse4 b).2 ≠ 0 ∨ (parse4 b).1.2.2.1 < 2 then ([], false)
  else (put2 ((b.take (parse4 b).1.2.1.toNat).set 8 ((parse4 b).1.2.2.1 - 1)) 10 (patchZ (wordZ b 10) (wordZ b 8) (wordZ b 8 - 256)), true)
def addr4 (a : Ad) : List Int := if a.2.2 = true then [0, 0, 0, 0] else bytesA a
def head4 (h : Hd) (n : Int) : List Int := [69, 0, n / 256, n % 256, 0, 0, 0, 0, h.2.2.1 % 256, h.2.2.2.1 % 256, 0, 0] ++ addr4 (hSrc h) ++ addr4 (hDst h)
def build4 (h : Hd) (body : List Int) : List Int :=
  put2 (head4 h (20 + (min body.length 2028 : Nat))) 10 (sumZ (head4 h (20 + (min body.length 2028 : Nat)))) ++ body.take 2028
theorem addr4_length (a : Ad) : (addr4 a).length = 4 := by
  unfold addr4
  split
  · rfl
  · rename_i h
    have h : a.2.2 = false := by simpa using h
    rw [bytesA_length, h]; rfl
theorem okB_addr4 (a : Ad) : okB (addr4 a) := by
  unfold addr4
  split
  · exact okB_zeros 4
  · exact okB_bytesB _ _
end Sp
