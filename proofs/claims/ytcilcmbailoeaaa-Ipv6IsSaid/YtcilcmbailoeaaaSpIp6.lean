/- Plain facts: packets of the sixth version. Nothing of the program stands here. -/
import Derived.Test.YtcilcmbailoeaaaSpIp4
set_option linter.all false
set_option maxRecDepth 10000
namespace Sp
open Go
abbrev H6 := Int × Int × Int × Int × Int × Int × Int × Bool × Int × Int × Bool
@[reducible] def src6 (h : H6) : Ad := (h.2.2.2.2.2.1, h.2.2.2.2.2.2.1, h.2.2.2.2.2.2.2.1)
@[reducible] def dst6 (h : H6) : Ad := (h.2.2.2.2.2.2.2.2.1, h.2.2.2.2.2.2.2.2.2.1, h.2.2.2.2.2.2.2.2.2.2)
@[reducible] def mk6 (c f b n l : Int) (s d : Ad) : H6 := (c, f, b, n, l, s.1, s.2.1, s.2.2, d.1, d.2.1, d.2.2)
def z6 : H6 := (0, 0, 0, 0, 0, 0, 0, false, 0, 0, false)
def numZ (l : List Int) : Int := l.foldl (fun n c => n * 256 + c) 0
def read6 (b : List Int) : H6 := mk6 (b.getD 0 0 % 16 * 16 + b.getD 1 0 / 16) (b.getD 1 0 % 16 * 65536 + b.getD 2 0 * 256 + b.getD 3 0) (wordZ b 4) (b.getD 6 0) (b.getD 7 0) (fromL ((b.drop 8).take 16)) (fromL ((b.drop 24).take 16))
def manyA : Ad := (18374686479671623680, 0, true)
def contZ (p : Pf) (a : Ad) : Bool := saneP p && decide (p = ofPf a p.2.2.2)
def strange6 (s d : Ad) : Bool := decide (maskA s 8 = manyA) || (decide (s = (0, 1, true)) || decide (d = (0, 0, true)))
def parse6 (b : List Int) : H6 × Int :=
  if b.length < 40 then (z6, 1)
  else if b.getD 0 0 / 16 ≠ 6 then (z6, 2)
  else if (b.length : Int) - 40 < (read6 b).2.2.1 then (z6, 4)
  else if strange6 (src6 (read6 b)) (dst6 (read6 b)) = true then (z6, 6)
  else (read6 b, 0)
def hop6 (b : List Int) : List Int × Bool :=
  if (parse6 b).2 ≠ 0 ∨ (parse6 b).1.2.2.2.2.1 < 2 then ([], false)
  else ((b.take (40 + (parse6 b).1.2.2.1).toNat).set 7 ((parse6 b).1.2.2.2.2.1 - 1), true)
def whole6 (a : Ad) : List Int := if a.2.2 = true then bytesA a else List.replicate 16 0
def head6 (h : H6) (n : Int) : List Int := [96 + h.1 % 256 / 16, h.1 % 16 * 16 + h.2.1 % 1048576 / 65536, h.2.1 / 256 % 256, h.2.1 % 256, n / 256, n % 256, h.2.2.2.1 % 256, h.2.2.2.2.1 % 256]
def build6 (h : H6) (body : List Int) : List Int := head6 h (min body.length 2008 : Nat) ++ whole6 (src6 h) ++ whole6 (dst6 h) ++ body.take 2008
theorem whole6_length (a : Ad) : (whole6 a).length = 16 := by
  unfold whole6
  split
  · rename_i h
    rw [bytesA_length, h]; rfl
  · rw [List.length_replicate]
theorem okB_whole6 (a : Ad) : okB (whole6 a) := by
  unfold whole6
  split
  · exact okB_bytesB _ _
  · exact okB_zeros 16
theorem many_sane : saneP (ofPf manyA 8) = true ∧ maskA manyA 8 = manyA := by decide +kernel
theorem contZ_many (s : Ad) : contZ (ofPf manyA 8) s = decide (maskA s 8 = manyA) := by
  have h1 := many_sane.1
  have h2 : ofPf manyA 8 = mkP manyA 8 := by
    unfold ofPf
    rw [many_sane.2]
    rfl
  have h3 : clampZ s.2.2 8 = 8 := by unfold clampZ wd; split <;> rfl
  unfold contZ
  rw [h1, h2]
  have h4 : ofPf s (mkP manyA 8).2.2.2 = mkP (maskA s 8) 8 := by
    show mkP (maskA s 8) (clampZ s.2.2 8) = _
    rw [h3]
  rw [h4, Bool.true_and]
  by_cases h : maskA s 8 = manyA
  · rw [h]; simp
  · rw [decide_eq_false h]
    refine decide_eq_false fun e => h ?_
    have e1 := congrArg (·.1) e
    have e2 := congrArg (·.2.1) e
    have e3 := congrArg (·.2.2.1) e
    exact Prod.ext e1.symm (Prod.ext e2.symm e3.symm)
theorem numZ_four {b : List Int} (h : 4 ≤ b.length) : numZ (b.take 4) = b.getD 0 0 * 16777216 + b.getD 1 0 * 65536 + b.getD 2 0 * 256 + b.getD 3 0 := by
  match b, h with
  | x :: y :: z :: u :: l, _ =>
    show (((0 * 256 + x) * 256 + y) * 256 + z) * 256 + u = x * 16777216 + y * 65536 + z * 256 + u
    omega
theorem numZ_two {b : List Int} (h : 6 ≤ b.length) : numZ ((b.take 6).drop 4) = wordZ b 4 := by
  match b, h with
  | x :: y :: z :: u :: p :: q :: l, _ =>
    show (0 * 256 + p) * 256 + q = p * 256 + q
    omega
theorem numZ_snoc (l : List Int) (c : Int) : numZ (l ++ [c]) = numZ l * 256 + c := by unfold numZ; rw [List.foldl_append]; rfl
theorem num_fold : ∀ (l : List Int) (n : Int) (k : Nat), okB l → 0 ≤ n → n < 256 ^ k → 0 ≤ l.foldl (fun n c => n * 256 + c) n ∧ l.foldl (fun n c => n * 256 + c) n < 256 ^ (k + l.length)
  | [], n, k, _, h0, h1 => ⟨h0, h1⟩
  | c :: l, n, k, h, h0, h1 => by
    have hc := h c (by simp)
    have := num_fold l (n * 256 + c) (k + 1) (fun x hx => h x (by simp [hx])) (by omega) (by rw [Int.pow_succ]; omega)
    rw [List.foldl_cons, List.length_cons, show k + (l.length + 1) = k + 1 + l.length by omega]
    exact this
theorem numZ_range (l : List Int) (h : okB l) : 0 ≤ numZ l ∧ numZ l < 256 ^ l.length := by
  have := num_fold l 0 0 h (by omega) (by decide)
  rwa [Nat.zero_add] at this
end Sp
