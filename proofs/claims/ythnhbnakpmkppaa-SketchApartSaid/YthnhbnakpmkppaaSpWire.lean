/- Plain facts: prefixes and routes as bytes. Nothing of the program stands here. -/
import Derived.Test.YthnhbnakpmkppaaSpBits
set_option linter.all false
namespace Sp
abbrev Pf := Int × Int × Bool × Int
abbrev Rt := Int × Int × Bool × Int × Int
@[reducible] def pA (p : Pf) : Ad := (p.1, p.2.1, p.2.2.1)
@[reducible] def mkP (a : Ad) (n : Int) : Pf := (a.1, a.2.1, a.2.2, n)
@[reducible] def rP (r : Rt) : Pf := (r.1, r.2.1, r.2.2.1, r.2.2.2.1)
@[reducible] def mkR (p : Pf) (h : Int) : Rt := (p.1, p.2.1, p.2.2.1, p.2.2.2, h)
def zP : Pf := (0, 0, false, 0)
def zR : Rt := (0, 0, false, 0, 0)
def clampZ (v6 : Bool) (n : Int) : Int := max 0 (min n (wd v6))
def ofPf (a : Ad) (n : Int) : Pf := mkP (maskA a n) (clampZ a.2.2 n)
def saneP (p : Pf) : Bool := decide (p = ofPf (pA p) p.2.2.2)
def wfP (p : Pf) : Prop := wfA (pA p)
def goodR (r : Rt) : Bool := decide (0 ≤ r.2.2.2.2) && (decide (r.2.2.2.2 ≤ 65535) && saneP (rP r))
def longZ (n : Int) : Nat := ((n + 7) / 8).toNat
def putP (p : Pf) : List Int := if saneP p = true then (if p.2.2.1 = true then 6 else 4) :: p.2.2.2 :: (bytesA (pA p)).take (longZ p.2.2.2) else []
def putR (r : Rt) : List Int := if goodR r = true then putP (rP r) ++ [r.2.2.2.2 / 256, r.2.2.2.2 % 256] else []
def wholeB (v6 : Bool) (l : List Int) : List Int := l ++ List.replicate (wd v6 / 8 - l.length) 0
/-- What stands first: the prefix, how many bytes it has, what is wrong. -/
def getP (b : List Int) : Pf × Int × Int :=
  if b.length < 2 then (zP, 0, 6)
  else if b.getD 0 0 ≠ 4 ∧ b.getD 0 0 ≠ 6 then (zP, 0, 5)
  else if (wd (decide (b.getD 0 0 = 6)) : Int) < b.getD 1 0 then (zP, 0, 1)
  else if b.length < 2 + longZ (b.getD 1 0) then (zP, 0, 6)
  else if saneP (mkP (fromL (wholeB (decide (b.getD 0 0 = 6)) ((b.drop 2).take (longZ (b.getD 1 0))))) (b.getD 1 0)) = true then
    (mkP (fromL (wholeB (decide (b.getD 0 0 = 6)) ((b.drop 2).take (longZ (b.getD 1 0))))) (b.getD 1 0), 2 + (longZ (b.getD 1 0) : Int), 0)
  else (zP, 0, 1)
def getR (b : List Int) : Rt × Int × Int :=
  if (getP b).2.2 ≠ 0 then (zR, 0, (getP b).2.2)
  else if (b.length : Int) < (getP b).2.1 + 2 then (zR, 0, 6)
  else (mkR (getP b).1 (b.getD (getP b).2.1.toNat 0 * 256 + b.getD ((getP b).2.1.toNat + 1) 0), (getP b).2.1 + 2, 0)
theorem wd_cases (v6 : Bool) : (v6 = true ∧ wd v6 = 128) ∨ (v6 = false ∧ wd v6 = 32) := by cases v6 <;> simp [wd]
theorem wd_bytes (v6 : Bool) : wd v6 = 8 * (wd v6 / 8) := by cases v6 <;> rfl
theorem sane_iff {p : Pf} : saneP p = true ↔ maskA (pA p) p.2.2.2 = pA p ∧ 0 ≤ p.2.2.2 ∧ p.2.2.2 ≤ wd p.2.2.1 := by
  obtain ⟨hi, lo, v6, n⟩ := p
  unfold saneP ofPf clampZ
  simp only [decide_eq_true_eq, Prod.mk.injEq, Prod.ext_iff]
  constructor
  · rintro ⟨h1, h2, h3, h4⟩
    exact ⟨⟨h1.symm, h2.symm, h3.symm⟩, by omega, by omega⟩
  · rintro ⟨⟨h1, h2, h3⟩, h4, h5⟩
    exact ⟨h1.symm, h2.symm, h3.symm, by omega⟩
theorem sane_bits {p : Pf} (h : saneP p = true) : bitsA (pA p) = padr (wd p.2.2.1) ((bitsA (pA p)).take p.2.2.2.toNat) := by
  have h1 := (sane_iff.1 h).1
  conv => lhs; rw [← h1]
  unfold maskA
  refine bitsA_ofB _ ?_
  rw [List.length_take, bitsA_length]
  show min _ (wd p.2.2.1) ≤ wd p.2.2.1
  omega
theorem sane_can {p : Pf} (h : saneP p = true) : canA (pA p) = pA p := by
  have h1 := (sane_iff.1 h).1
  have h2 := sane_bits h
  show ofB p.2.2.1 (bitsA (pA p)) = pA p
  conv => rhs; rw [← h1]
  rw [h2]
  show ofB _ _ = ofB p.2.2.1 ((bitsA (pA p)).take p.2.2.2.toNat)
  unfold ofB
  have e1 : ∀ l : List Bool, l.length ≤ wd p.2.2.1 → padr 64 ((padr (wd p.2.2.1) l).take 64) = padr 64 (l.take 64) := by
    intro l hl
    unfold padr
    rw [List.take_append, List.append_assoc]
    congr 1
    rw [List.take_replicate, List.replicate_append_replicate]
    congr 1
    simp
    rcases wd_cases p.2.2.1 with ⟨_, e⟩ | ⟨_, e⟩ <;> rw [e] at hl ⊢ <;> omega
  have e2 : ∀ l : List Bool, l.length ≤ wd p.2.2.1 → padr 64 ((padr (wd p.2.2.1) l).drop 64) = padr 64 (l.drop 64) := by
    intro l hl
    unfold padr
    rw [List.drop_append, List.append_assoc]
    congr 1
    rw [List.drop_replicate, List.replicate_append_replicate]
    congr 1
    simp
    rcases wd_cases p.2.2.1 with ⟨_, e⟩ | ⟨_, e⟩ <;> rw [e] at hl ⊢ <;> omega
  have hl : ((bitsA (pA p)).take p.2.2.2.toNat).length ≤ wd p.2.2.1 := by
    rw [List.length_take, bitsA_length]; exact Nat.min_le_right _ _
  rw [e1 _ hl, e2 _ hl]
theorem bytesB_drop (k : Nat) : ∀ (n : Nat) (l : List Bool), (bytesB n l).drop k = bytesB (n - k) (l.drop (8 * k)) := by
  induction k with
  | zero => intro n l; simp
  | succ k ih =>
    intro n l
    cases n with
    | zero => simp [bytesB]
    | succ n =>
      rw [bytesB, List.drop_succ_cons, ih, List.drop_drop, show n + 1 - (k + 1) = n - k by omega, show 8 + 8 * k = 8 * (k + 1) by omega]
theorem bytesB_zeros (n : Nat) : ∀ m, bytesB n (List.replicate m false) = List.replicate n 0 := by
  induction n with
  | zero => intro m; rfl
  | succ n ih => intro m; rw [bytesB, List.take_replicate, valB_zeros, List.drop_replicate, ih, List.replicate_succ]; rfl
theorem longZ_le {n : Int} {v6 : Bool} (h : n ≤ wd v6) : longZ n ≤ wd v6 / 8 := by
  unfold longZ
  rcases wd_cases v6 with ⟨_, e⟩ | ⟨_, e⟩ <;> rw [e] at h ⊢ <;> omega
theorem sane_bytes {p : Pf} (h : saneP p = true) : wholeB p.2.2.1 ((bytesA (pA p)).take (longZ p.2.2.2)) = bytesA (pA p) := by
  obtain ⟨_, h0, h1⟩ := sane_iff.1 h
  have hl := longZ_le h1
  have hd : (bytesA (pA p)).drop (longZ p.2.2.2) = List.replicate (wd p.2.2.1 / 8 - longZ p.2.2.2) 0 := by
    unfold bytesA
    rw [bytesB_drop, sane_bits h]
    unfold padr
    rw [List.drop_append, List.drop_eq_nil_of_le (by rw [List.length_take]; unfold longZ; omega), List.nil_append, List.drop_replicate, bytesB_zeros]
  conv => rhs; rw [← List.take_append_drop (longZ p.2.2.2) (bytesA (pA p)), hd]
  unfold wholeB
  rw [List.length_take, bytesA_length]
  congr 2
  show wd p.2.2.1 / 8 - min (longZ p.2.2.2) (wd p.2.2.1 / 8) = _
  omega
theorem putP_length {p : Pf} (h : saneP p = true) : (putP p).length = 2 + longZ p.2.2.2 := by
  obtain ⟨_, h0, h1⟩ := sane_iff.1 h
  have hl := longZ_le h1
  unfold putP
  rw [if_pos h]
  simp only [List.length_cons, List.length_take, bytesA_length]
  show min (longZ p.2.2.2) (wd p.2.2.1 / 8) + 1 + 1 = _
  omega
theorem get_put {p : Pf} (h : saneP p = true) (more : List Int) : getP (putP p ++ more) = (p, 2 + (longZ p.2.2.2 : Int), 0) := by
  obtain ⟨_, h0, h1⟩ := sane_iff.1 h
  have hl := longZ_le h1
  have hlen := putP_length h
  have hput : putP p = (if p.2.2.1 = true then 6 else 4) :: p.2.2.2 :: (bytesA (pA p)).take (longZ p.2.2.2) := by unfold putP; rw [if_pos h]
  have g0 : (putP p ++ more).getD 0 0 = if p.2.2.1 = true then 6 else 4 := by rw [hput]; rfl
  have g1 : (putP p ++ more).getD 1 0 = p.2.2.2 := by rw [hput]; rfl
  have gd : ((putP p ++ more).drop 2).take (longZ p.2.2.2) = (bytesA (pA p)).take (longZ p.2.2.2) := by
    rw [hput]
    simp only [List.cons_append, List.drop_succ_cons, List.drop_zero]
    rw [List.take_append_of_le_length (by rw [List.length_take, bytesA_length]; show _ ≤ min _ (wd p.2.2.1 / 8); omega), List.take_take, Nat.min_self]
  have hv : decide ((if p.2.2.1 = true then (6 : Int) else 4) = 6) = p.2.2.1 := by cases p.2.2.1 <;> simp
  unfold getP
  rw [g0, g1, gd, hv, sane_bytes h, fromL_bytesA, sane_can h]
  rw [if_neg (by rw [List.length_append]; omega), if_neg (by cases p.2.2.1 <;> simp), if_neg (by omega), if_neg (by rw [List.length_append]; omega)]
  rw [show mkP (pA p) p.2.2.2 = p from rfl, if_pos h]
theorem get_short {p : Pf} (h : saneP p = true) : (getP ((putP p).take ((putP p).length - 1))).2.2 = 6 := by
  obtain ⟨_, h0, h1⟩ := sane_iff.1 h
  have hlen := putP_length h
  have hput : putP p = (if p.2.2.1 = true then 6 else 4) :: p.2.2.2 :: (bytesA (pA p)).take (longZ p.2.2.2) := by unfold putP; rw [if_pos h]
  unfold getP
  by_cases hz : longZ p.2.2.2 = 0
  · rw [if_pos (by rw [List.length_take]; omega)]
  obtain ⟨k, hk⟩ : ∃ k, (putP p).length - 1 = k + 2 := ⟨longZ p.2.2.2 - 1, by omega⟩
  have g0 : ((putP p).take ((putP p).length - 1)).getD 0 0 = if p.2.2.1 = true then 6 else 4 := by rw [hk, hput]; rfl
  have g1 : ((putP p).take ((putP p).length - 1)).getD 1 0 = p.2.2.2 := by rw [hk, hput]; rfl
  have hv : decide ((if p.2.2.1 = true then (6 : Int) else 4) = 6) = p.2.2.1 := by cases p.2.2.1 <;> simp
  rw [g0, g1, hv, if_neg (by rw [List.length_take]; omega), if_neg (by cases p.2.2.1 <;> simp), if_neg (by omega), if_pos (by rw [List.length_take]; omega)]
theorem goodR_iff {r : Rt} : goodR r = true ↔ 0 ≤ r.2.2.2.2 ∧ r.2.2.2.2 ≤ 65535 ∧ saneP (rP r) = true := by
  unfold goodR; simp [and_assoc]
theorem getR_putR {r : Rt} (h : goodR r = true) (more : List Int) : getR (putR r ++ more) = (r, ((putR r).length : Int), 0) := by
  obtain ⟨h0, h1, hs⟩ := goodR_iff.1 h
  have hlen : (putP (rP r)).length = 2 + longZ r.2.2.2.1 := putP_length hs
  have hput : putR r = putP (rP r) ++ [r.2.2.2.2 / 256, r.2.2.2.2 % 256] := by unfold putR; rw [if_pos h]
  have hg : getP (putP (rP r) ++ ([r.2.2.2.2 / 256, r.2.2.2.2 % 256] ++ more)) = (rP r, 2 + (longZ r.2.2.2.1 : Int), 0) := get_put hs ([r.2.2.2.2 / 256, r.2.2.2.2 % 256] ++ more)
  unfold getR
  rw [hput, List.append_assoc, hg]
  simp only [ne_eq, not_true_eq_false, if_false]
  rw [if_neg (by simp only [List.length_append, List.length_cons, List.length_nil]; omega)]
  have e1 : (2 + (longZ r.2.2.2.1 : Int)).toNat = (putP (rP r)).length := by omega
  have g0 : (putP (rP r) ++ ([r.2.2.2.2 / 256, r.2.2.2.2 % 256] ++ more)).getD (putP (rP r)).length 0 = r.2.2.2.2 / 256 := by
    rw [List.getD_eq_getElem?_getD, List.getElem?_append_right (Nat.le_refl _), Nat.sub_self]; rfl
  have g1 : (putP (rP r) ++ ([r.2.2.2.2 / 256, r.2.2.2.2 % 256] ++ more)).getD ((putP (rP r)).length + 1) 0 = r.2.2.2.2 % 256 := by
    rw [List.getD_eq_getElem?_getD, List.getElem?_append_right (by omega), show (putP (rP r)).length + 1 - (putP (rP r)).length = 1 by omega]; rfl
  rw [e1, g0, g1, show r.2.2.2.2 / 256 * 256 + r.2.2.2.2 % 256 = r.2.2.2.2 by omega]
  simp only [List.length_append, List.length_cons, List.length_nil]
  refine Prod.ext rfl (Prod.ext ?_ rfl)
  show 2 + (longZ r.2.2.2.1 : Int) + 2 = (((putP (rP r)).length + (0 + 1 + 1) : Nat) : Int)
  omega
theorem putR_length {r : Rt} (h : goodR r = true) : (putR r).length = 4 + longZ r.2.2.2.1 := by
  have hput : putR r = putP (rP r) ++ [r.2.2.2.2 / 256, r.2.2.2.2 % 256] := by unfold putR; rw [if_pos h]
  rw [hput, List.length_append, putP_length (goodR_iff.1 h).2.2]
  simp
  omega
theorem getR_short {r : Rt} (h : goodR r = true) : (getR ((putR r).take ((putR r).length - 1))).2.2 = 6 := by
  obtain ⟨h0, h1, hs⟩ := goodR_iff.1 h
  have hlen : (putP (rP r)).length = 2 + longZ r.2.2.2.1 := putP_length hs
  have hput : putR r = putP (rP r) ++ [r.2.2.2.2 / 256, r.2.2.2.2 % 256] := by unfold putR; rw [if_pos h]
  have e : (putR r).take ((putR r).length - 1) = putP (rP r) ++ [r.2.2.2.2 / 256] := by
    rw [hput, List.length_append, List.take_append]
    simp only [List.length_cons, List.length_nil]
    rw [List.take_of_length_le (by omega), show (putP (rP r)).length + (0 + 1 + 1) - 1 - (putP (rP r)).length = 1 by omega]
    rfl
  rw [e]
  unfold getR
  have hg : getP (putP (rP r) ++ [r.2.2.2.2 / 256]) = (rP r, 2 + (longZ r.2.2.2.1 : Int), 0) := get_put hs _
  rw [hg]
  simp only [ne_eq, not_true_eq_false, if_false]
  rw [if_pos (by simp only [List.length_append, List.length_cons, List.length_nil]; omega)]
theorem putR_inj {r s : Rt} (hr : goodR r = true) (hs : goodR s = true) {m n : List Int} (h : putR r ++ m = putR s ++ n) : r = s := by
  have h1 := getR_putR hr m
  have h2 := getR_putR hs n
  rw [h, h2] at h1
  exact (Prod.ext_iff.1 h1).1.symm
/-- What is got is what was put. -/
theorem getP_ok {b : List Int} (hb : okB b) (h : (getP b).2.2 = 0) : saneP (getP b).1 = true ∧ wfP (getP b).1 ∧ b.take (getP b).2.1.toNat = putP (getP b).1 ∧ (getP b).2.1.toNat ≤ b.length ∧ (getP b).2.1 = 2 + (longZ (getP b).1.2.2.2 : Int) := by
  unfold getP at h ⊢
  by_cases c1 : b.length < 2
  · rw [if_pos c1] at h; exact absurd h (by decide)
  rw [if_neg c1] at h ⊢
  by_cases c2 : b.getD 0 0 ≠ 4 ∧ b.getD 0 0 ≠ 6
  · rw [if_pos c2] at h; exact absurd h (by simp)
  rw [if_neg c2] at h ⊢
  by_cases c3 : (wd (decide (b.getD 0 0 = 6)) : Int) < b.getD 1 0
  · rw [if_pos c3] at h; exact absurd h (by simp)
  rw [if_neg c3] at h ⊢
  by_cases c4 : b.length < 2 + longZ (b.getD 1 0)
  · rw [if_pos c4] at h; exact absurd h (by simp)
  rw [if_neg c4] at h ⊢
  generalize hv : decide (b.getD 0 0 = 6) = v6 at *
  generalize ha : fromL (wholeB v6 ((b.drop 2).take (longZ (b.getD 1 0)))) = a at *
  by_cases c5 : saneP (mkP a (b.getD 1 0)) = true
  rotate_left
  · rw [if_neg c5] at h; exact absurd h (by simp)
  rw [if_pos c5]
  have hn := longZ_le (n := b.getD 1 0) (v6 := v6) (by omega)
  have hlen : (wholeB v6 ((b.drop 2).take (longZ (b.getD 1 0)))).length = wd v6 / 8 := by
    unfold wholeB
    simp only [List.length_append, List.length_take, List.length_drop, List.length_replicate]
    omega
  have hok : okB (wholeB v6 ((b.drop 2).take (longZ (b.getD 1 0)))) := okB_append (okB_take (okB_drop hb 2) _) (okB_zeros _)
  have h416 : wd v6 / 8 = 4 ∨ wd v6 / 8 = 16 := by cases v6 <;> simp [wd]
  have hba : bytesA a = wholeB v6 ((b.drop 2).take (longZ (b.getD 1 0))) := by rw [← ha]; exact bytesA_fromL hok (by rw [hlen]; exact h416)
  have hav : a.2.2 = v6 := by
    rw [← ha]
    show decide (_ = 16) = v6
    rw [hlen]
    cases v6 <;> rfl
  refine ⟨c5, ?_, ?_, ?_, rfl⟩
  · show wfA a
    rw [← ha]
    refine wfA_ofB _ ?_
    rw [bitsL_length, hlen]
    rcases h416 with h | h <;> rw [h] <;> omega
  · show b.take (2 + (longZ (b.getD 1 0) : Int)).toNat = putP (mkP a (b.getD 1 0))
    unfold putP
    rw [if_pos c5]
    show _ = (if a.2.2 = true then (6 : Int) else 4) :: b.getD 1 0 :: (bytesA a).take (longZ (b.getD 1 0))
    rw [hba, hav]
    have e0 : (wholeB v6 ((b.drop 2).take (longZ (b.getD 1 0)))).take (longZ (b.getD 1 0)) = (b.drop 2).take (longZ (b.getD 1 0)) := by
      unfold wholeB
      rw [List.take_append_of_le_length (by simp only [List.length_take, List.length_drop]; omega), List.take_take, Nat.min_self]
    rw [e0]
    have e1 : (if v6 = true then (6 : Int) else 4) = b.getD 0 0 := by
      rw [← hv]
      by_cases h6 : b.getD 0 0 = 6
      · rw [h6]; rfl
      · simp only [h6, decide_false, Bool.false_eq_true, if_false]
        exact (Decidable.byContradiction fun h4 => c2 ⟨fun e => h4 e.symm, h6⟩)
    rw [e1]
    have e2 : ∀ k : Nat, b.take (2 + (k : Int)).toNat = b.getD 0 0 :: b.getD 1 0 :: (b.drop 2).take k := by
      intro k
      rw [show (2 + (k : Int)).toNat = k + 2 by omega]
      cases b with
      | nil => simp at c1
      | cons x t => cases t with
        | nil => simp at c1
        | cons y t => rfl
    exact e2 _
  · show (2 + (longZ (b.getD 1 0) : Int)).toNat ≤ b.length
    omega
theorem getP_bad {b : List Int} (h : (getP b).2.2 ≠ 0) : (getP b).1 = zP ∧ (getP b).2.1 = 0 := by
  unfold getP at h ⊢
  split
  · exact ⟨rfl, rfl⟩
  split
  · exact ⟨rfl, rfl⟩
  split
  · exact ⟨rfl, rfl⟩
  split
  · exact ⟨rfl, rfl⟩
  split
  · rename_i h1 h2 h3 h4 h5
    rw [if_neg h1, if_neg h2, if_neg h3, if_neg h4, if_pos h5] at h
    exact absurd rfl h
  · exact ⟨rfl, rfl⟩
theorem getR_ok {b : List Int} (hb : okB b) (h : (getR b).2.2 = 0) : goodR (getR b).1 = true ∧ wfP (rP (getR b).1) ∧ b.take (getR b).2.1.toNat = putR (getR b).1 ∧ (getR b).2.1 = ((putR (getR b).1).length : Int) ∧ (putR (getR b).1).length ≤ b.length := by
  unfold getR at h ⊢
  by_cases c1 : (getP b).2.2 ≠ 0
  · rw [if_pos c1] at h; exact absurd h c1
  rw [if_neg c1] at h ⊢
  by_cases c2 : (b.length : Int) < (getP b).2.1 + 2
  · rw [if_pos c2] at h; exact absurd h (by simp)
  rw [if_neg c2]
  obtain ⟨h1, h2, h3, h4, h5⟩ := getP_ok hb (Decidable.not_not.1 c1)
  generalize (getP b).1 = p at *
  generalize (getP b).2.1 = n at *
  have b0 := okB_getD hb n.toNat
  have b1 := okB_getD hb (n.toNat + 1)
  have hg : goodR (mkR p (b.getD n.toNat 0 * 256 + b.getD (n.toNat + 1) 0)) = true := goodR_iff.2 ⟨by simp only; omega, by simp only; omega, h1⟩
  have hlen := putR_length hg
  have e : (putR (mkR p (b.getD n.toNat 0 * 256 + b.getD (n.toNat + 1) 0))) = putP p ++ [b.getD n.toNat 0, b.getD (n.toNat + 1) 0] := by
    unfold putR
    rw [if_pos hg]
    show putP p ++ [(b.getD n.toNat 0 * 256 + b.getD (n.toNat + 1) 0) / 256, (b.getD n.toNat 0 * 256 + b.getD (n.toNat + 1) 0) % 256] = _
    rw [show (b.getD n.toNat 0 * 256 + b.getD (n.toNat + 1) 0) / 256 = b.getD n.toNat 0 by omega, show (b.getD n.toNat 0 * 256 + b.getD (n.toNat + 1) 0) % 256 = b.getD (n.toNat + 1) 0 by omega]
  have hlen2 : (putR (mkR p (b.getD n.toNat 0 * 256 + b.getD (n.toNat + 1) 0))).length = n.toNat + 2 := by
    rw [hlen]
    show 4 + longZ p.2.2.2 = _
    omega
  refine ⟨hg, h2, ?_, ?_, ?_⟩
  · show b.take (n + 2).toNat = putR (mkR p _)
    rw [e, ← h3, show (n + 2).toNat = n.toNat + 1 + 1 by omega]
    have hn : n.toNat + 1 < b.length := by omega
    rw [List.take_succ_eq_append_getElem (by omega), List.take_succ_eq_append_getElem (by omega), List.append_assoc]
    congr 1
    simp [List.getD_eq_getElem?_getD, List.getElem?_eq_getElem, hn, show n.toNat < b.length by omega]
  · show n + 2 = _
    rw [hlen2]
    omega
  · rw [hlen2]; omega
theorem getR_bad {b : List Int} (h : (getR b).2.2 ≠ 0) : (getR b).1 = zR ∧ (getR b).2.1 = 0 := by
  unfold getR at h ⊢
  split
  · exact ⟨rfl, rfl⟩
  split
  · exact ⟨rfl, rfl⟩
  · rename_i h1 h2
    rw [if_neg h1, if_neg h2] at h
    exact absurd rfl h
theorem getR_rest {b : List Int} (hb : okB b) (h : (getR b).2.2 = 0) : b = putR (getR b).1 ++ b.drop (getR b).2.1.toNat ∧ 0 < (getR b).2.1.toNat := by
  obtain ⟨h1, _, h3, h4, _⟩ := getR_ok hb h
  refine ⟨by rw [← h3, List.take_append_drop], ?_⟩
  have := putR_length h1
  omega
/-- All that stands there. -/
def getAllN : Nat → List Int → List Rt × Int
  | 0, _ => ([], 0)
  | _ + 1, [] => ([], 0)
  | n + 1, b => if (getR b).2.2 ≠ 0 then ([], (getR b).2.2) else
      if (getAllN n (b.drop (getR b).2.1.toNat)).2 ≠ 0 then ([], (getAllN n (b.drop (getR b).2.1.toNat)).2) else ((getR b).1 :: (getAllN n (b.drop (getR b).2.1.toNat)).1, 0)
def getAllL (b : List Int) : List Rt × Int := getAllN b.length b
theorem getAllN_more {n : Nat} : ∀ {m : Nat} {b : List Int}, okB b → b.length ≤ n → n ≤ m → getAllN m b = getAllN n b := by
  induction n with
  | zero =>
    intro m b hb hl hm
    have : b = [] := List.length_eq_zero_iff.1 (by omega)
    subst this
    cases m <;> rfl
  | succ n ih =>
    intro m b hb hl hm
    cases m with
    | zero => omega
    | succ m =>
      cases b with
      | nil => rfl
      | cons x b =>
        simp only [getAllN]
        by_cases c : (getR (x :: b)).2.2 ≠ 0
        · rw [if_pos c, if_pos c]
        · rw [if_neg c, if_neg c]
          have h0 := (getR_rest hb (Decidable.not_not.1 c)).2
          rw [ih (okB_drop hb _) (by rw [List.length_drop]; omega) (by omega)]
theorem getAllL_nil : getAllL [] = ([], 0) := rfl
theorem getAllL_step {b : List Int} (hb : okB b) (hl : 0 < b.length) : getAllL b = if (getR b).2.2 ≠ 0 then ([], (getR b).2.2) else
      if (getAllL (b.drop (getR b).2.1.toNat)).2 ≠ 0 then ([], (getAllL (b.drop (getR b).2.1.toNat)).2) else ((getR b).1 :: (getAllL (b.drop (getR b).2.1.toNat)).1, 0) := by
  cases b with
  | nil => simp at hl
  | cons x b =>
    unfold getAllL
    rw [List.length_cons, getAllN]
    rotate_left
    · exact fun h => by cases h
    by_cases c : (getR (x :: b)).2.2 ≠ 0
    · rw [if_pos c, if_pos c]
    · rw [if_neg c, if_neg c]
      have h0 := (getR_rest hb (Decidable.not_not.1 c)).2
      have hle : ((x :: b).drop (getR (x :: b)).2.1.toNat).length ≤ b.length := by rw [List.length_drop, List.length_cons]; omega
      rw [getAllN_more (okB_drop hb _) (Nat.le_refl _) hle]
def putAllL (l : List Rt) : List Int := l.flatMap putR
theorem getAll_put (l : List Rt) (h : ∀ r ∈ l, goodR r = true) : getAllL (putAllL l) = (l, 0) ∧ okB (putAllL l) := by
  have okP : ∀ r : Rt, goodR r = true → okB (putR r) := by
    intro r hr
    obtain ⟨h0, h1, hs⟩ := goodR_iff.1 hr
    unfold putR putP
    rw [if_pos hr, if_pos hs]
    obtain ⟨_, h2, h3⟩ := sane_iff.1 hs
    have := wd_le r.2.2.1
    have h2 : 0 ≤ r.2.2.2.1 := h2
    have h3 : r.2.2.2.1 ≤ wd r.2.2.1 := h3
    intro x hx
    simp only [List.cons_append, List.mem_cons, List.mem_append, List.not_mem_nil, or_false] at hx
    rcases hx with rfl | rfl | hx | rfl | rfl
    · split <;> omega
    · omega
    · exact okB_take (okB_bytesB _ _) _ x hx
    · omega
    · omega
  induction l with
  | nil => exact ⟨rfl, fun x hx => by simp [putAllL] at hx⟩
  | cons r l ih =>
    obtain ⟨ih, ok⟩ := ih fun q hq => h q (by simp [hq])
    have hr := h r (by simp)
    have e : putAllL (r :: l) = putR r ++ putAllL l := rfl
    have hok : okB (putAllL (r :: l)) := by rw [e]; exact okB_append (okP r hr) ok
    refine ⟨?_, hok⟩
    have hlen := putR_length hr
    rw [getAllL_step hok (by rw [e, List.length_append]; omega), e, getR_putR hr]
    simp only [ne_eq, not_true_eq_false, if_false, Int.toNat_natCast, List.drop_left', ih]
theorem put_getAll (n : Nat) : ∀ {b : List Int}, okB b → b.length ≤ n → (getAllL b).2 = 0 → putAllL (getAllL b).1 = b ∧ ∀ r ∈ (getAllL b).1, goodR r = true ∧ wfP (rP r) := by
  induction n with
  | zero =>
    intro b hb hl _
    have : b = [] := List.length_eq_zero_iff.1 (by omega)
    subst this
    exact ⟨rfl, fun r hr => by simp [getAllL_nil] at hr⟩
  | succ n ih =>
    intro b hb hl h
    by_cases h0 : b.length = 0
    · have : b = [] := List.length_eq_zero_iff.1 h0
      subst this
      exact ⟨rfl, fun r hr => by simp [getAllL_nil] at hr⟩
    rw [getAllL_step hb (by omega)] at h ⊢
    by_cases c : (getR b).2.2 ≠ 0
    · rw [if_pos c] at h; exact absurd h c
    rw [if_neg c] at h ⊢
    by_cases c2 : (getAllL (b.drop (getR b).2.1.toNat)).2 ≠ 0
    · rw [if_pos c2] at h; exact absurd h c2
    rw [if_neg c2] at h ⊢
    have hc := Decidable.not_not.1 c
    obtain ⟨h1, h2⟩ := getR_rest hb hc
    obtain ⟨h3, h4, _⟩ := getR_ok hb hc
    obtain ⟨i1, i2⟩ := ih (okB_drop hb _) (by rw [List.length_drop]; omega) (Decidable.not_not.1 c2)
    refine ⟨?_, fun r hr => ?_⟩
    · show putR (getR b).1 ++ putAllL _ = b
      rw [i1, ← h1]
    · rcases List.mem_cons.1 hr with rfl | hr
      · exact ⟨h3, h4⟩
      · exact i2 r hr
theorem getAll_bad (n : Nat) : ∀ {b : List Int}, okB b → b.length ≤ n → (getAllL b).2 ≠ 0 → (getAllL b).1 = [] := by
  induction n with
  | zero =>
    intro b hb hl h
    have : b = [] := List.length_eq_zero_iff.1 (by omega)
    subst this
    exact absurd rfl h
  | succ n ih =>
    intro b hb hl h
    by_cases h0 : b.length = 0
    · have : b = [] := List.length_eq_zero_iff.1 h0
      subst this
      exact absurd rfl h
    rw [getAllL_step hb (by omega)] at h ⊢
    split
    · rfl
    · rename_i c
      rw [if_neg c] at h
      split
      · rfl
      · rename_i c2
        rw [if_neg c2] at h
        exact absurd rfl h
end Sp
