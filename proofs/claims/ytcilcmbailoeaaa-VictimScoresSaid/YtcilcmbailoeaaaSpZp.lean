/- Contracts kept: sorted stably. -/
import Derived.Test.YtcilcmbailoeaaaSpZt
set_option linter.all false
set_option maxRecDepth 10000
namespace Sp
open Go Go.Proofs Sx Go.Proofs.Ytcilcmbailoeaaa.Ma
/-! ### stretches of one length, each in order -/
def Ch (key : En → Int) (s : Nat) (l : List En) : Prop := ∀ i, SortedK key ((l.drop (i * s)).take s)
theorem Ch.one {key : En → Int} {s : Nat} {l : List En} (h : SortedK key l) (hl : l.length ≤ s) : Ch key s l := by
  intro i
  cases i with
  | zero => rw [Nat.zero_mul, List.drop_zero, List.take_of_length_le hl]; exact h
  | succ i => rw [List.drop_eq_nil_of_le (by rw [Nat.succ_mul]; omega), List.take_nil]; exact List.Pairwise.nil
theorem Ch.head {key : En → Int} {s : Nat} {l : List En} (h : Ch key s l) : SortedK key (l.take s) := by
  have := h 0
  rwa [Nat.zero_mul, List.drop_zero] at this
theorem Ch.tail {key : En → Int} {s : Nat} {l : List En} (h : Ch key s l) : Ch key s (l.drop s) := by
  intro i
  have := h (i + 1)
  rwa [show (i + 1) * s = s + i * s by rw [Nat.succ_mul, Nat.add_comm], ← List.drop_drop] at this
theorem Ch.app {key : En → Int} {s j : Nat} {l m : List En} (hl : l.length = j * s) (h : Ch key s l) (h2 : Ch key s m) : Ch key s (l ++ m) := by
  intro i
  rcases Nat.lt_or_ge i j with hi | hi
  · have h3 : i * s + s ≤ j * s := by
      have := Nat.mul_le_mul_right s hi
      rwa [Nat.succ_mul] at this
    rw [List.drop_append_of_le_length (by omega), List.take_append_of_le_length (by rw [List.length_drop]; omega)]
    exact h i
  · have h3 : j * s ≤ i * s := Nat.mul_le_mul_right s hi
    rw [List.drop_append, List.drop_eq_nil_of_le (by omega), List.nil_append, hl, show i * s - j * s = (i - j) * s by rw [Nat.sub_mul]]
    exact h2 (i - j)
theorem SSR.eqf {key : En → Int} {a b : Nat} {y z : List En} (hab : a ≤ b) (h : SSR key a b y z) : EqF key z y := by
  rw [split3 z hab, split3 y hab, h.ahead, h.behind]
  exact ((EqF.refl _ _).app h.same).app (EqF.refl _ _)
theorem take_mid {α : Type} (z : List α) {a b : Nat} (hab : a ≤ b) : z.take b = z.take a ++ mids z a b := by
  unfold mids
  have := List.take_append_drop a (z.take b)
  rw [List.take_take, Nat.min_eq_left hab] at this
  exact this.symm
theorem mid_take {α : Type} (z : List α) (a s : Nat) : mids z a (a + s) = (z.drop a).take s := by
  unfold mids
  rw [List.take_drop]
theorem mid_take2 {α : Type} (z : List α) {a s n : Nat} (h : z.length = n) (hn : n ≤ a + s) : mids z a n = (z.drop a).take s := by
  unfold mids
  rw [List.take_of_length_le (by omega), List.take_of_length_le (by rw [List.length_drop]; omega)]
theorem p_vstab (key : En → Int) : T_vstab key := by
  intro xs hl
  have hl' : xs.length ≤ 1000000 := hl
  have hmost : most = 1000000 := rfl
  refine ⟨fun x => 0 ≤ x.1 ∧ x.1 ≤ xs.length ∧ x.2.1 = x.1 + 20 ∧ x.2.2.length = xs.length ∧ EqF key x.2.2 xs ∧ (∃ j, x.1.toNat = j * 20) ∧ Ch key 20 (x.2.2.take x.1.toNat), fun x => (xs.length - x.1).toNat,
    ⟨(0, 20, xs), ⟨by simp, by simp, by simp, rfl, EqF.refl _ _, ⟨0, by simp⟩, by
      dsimp only
      rw [show (0 : Int).toNat = 0 from rfl, List.take_zero]
      exact Ch.one List.Pairwise.nil (by simp)⟩, rfl, rfl, rfl, trivial⟩, ?_⟩
  rintro ⟨a, b, ys⟩ ⟨a0, a1, a2, a3, a4, ⟨j, a5⟩, a6⟩
  dsimp only at a0 a1 a2 a3 a4 a5 a6 ⊢
  subst a2
  have step : ∀ (c : Nat) z, a.toNat ≤ c → c ≤ xs.length → c ≤ a.toNat + 20 → SSR key a.toNat c ys z → z.length = xs.length ∧ EqF key z xs ∧ Ch key 20 (z.take c) := by
    intro c z c1 c2 c3 hz
    refine ⟨hz.len.trans a3, (hz.eqf c1).trans a4, ?_⟩
    rw [take_mid z c1, hz.ahead]
    exact Ch.app (j := j) (by rw [List.length_take]; omega) a6 (Ch.one hz.sorted (by rw [mids_length _ (by rw [hz.len]; omega)]; omega))
  refine ifB_d (fun hb => ⟨(ys, a.toNat, (a + 20).toNat), a3.symm, by dsimp only; omega, by dsimp only; omega, rfl, ⟨by dsimp only; omega, by dsimp only; omega, by dsimp only; omega⟩, fun z hz => ⟨by omega, (a + 20, a + 20 + 20, z), ?_, by dsimp only; omega, rfl, rfl, rfl, trivial⟩⟩) fun hb =>
    ⟨(ys, a.toNat, xs.length), a3.symm, by dsimp only; omega, rfl, rfl, ⟨by dsimp only; omega, by dsimp only; omega, by dsimp only; omega⟩, fun z hz => ?_⟩
  · obtain ⟨q1, q2, q3⟩ := step (a + 20).toNat z (by omega) (by omega) (by omega) hz
    exact ⟨by dsimp only; omega, by dsimp only; omega, rfl, q1, q2, ⟨j + 1, by dsimp only; omega⟩, q3⟩
  obtain ⟨q1, q2, q3⟩ := step xs.length z (by omega) (by omega) (by omega) hz
  rw [List.take_of_length_le (by omega)] at q3
  refine ⟨fun x => 20 ≤ x.1 ∧ x.1 ≤ 2 * xs.length + 20 ∧ x.2.length = xs.length ∧ EqF key x.2 xs ∧ Ch key x.1.toNat x.2, fun x => (xs.length - x.1).toNat, ⟨(20, z), ⟨by simp, by dsimp only; omega, q1, q2, q3⟩, rfl, rfl, trivial⟩, ?_⟩
  clear q1 q2 q3 hz z step a0 a1 a3 a4 a5 a6 hb
  rintro ⟨s, ys⟩ ⟨s0, s1, s2, s3, s4⟩
  dsimp only at s0 s1 s2 s3 s4 ⊢
  refine ifB_d (fun hs => ⟨by omega, ?_⟩) fun hs => ⟨ys, ⟨s2, rfl, ?_, ?_, ?_⟩, rfl, trivial⟩
  · have S0 : ((s.toNat : Nat) : Int) = s := by omega
    refine ⟨fun x => 0 ≤ x.1 ∧ x.1 ≤ xs.length ∧ x.2.1 = x.1 + 2 * s ∧ x.2.2.length = xs.length ∧ EqF key x.2.2 xs ∧ (∃ j, x.1.toNat = j * (2 * s.toNat)) ∧ Ch key (2 * s.toNat) (x.2.2.take x.1.toNat) ∧ Ch key s.toNat (x.2.2.drop x.1.toNat), fun x => (xs.length - x.1).toNat,
      ⟨(0, 2 * s, ys), ⟨by simp, by simp, by dsimp only; omega, s2, s3, ⟨0, by simp⟩, by
        dsimp only
        rw [show (0 : Int).toNat = 0 from rfl, List.take_zero]
        exact Ch.one List.Pairwise.nil (by simp), by
        dsimp only
        rw [show (0 : Int).toNat = 0 from rfl, List.drop_zero]
        exact s4⟩, rfl, rfl, rfl, trivial⟩, ?_⟩
    clear s4 s3 s2 j
    rintro ⟨a, b, ys⟩ ⟨a0, a1, a2, a3, a4, ⟨j, a5⟩, a6, a7⟩
    dsimp only at a0 a1 a2 a3 a4 a5 a6 a7 ⊢
    subst a2
    have step : ∀ (c : Nat) z, a.toNat ≤ c → c ≤ xs.length → c ≤ a.toNat + 2 * s.toNat → SSR key a.toNat c ys z → z.length = xs.length ∧ EqF key z xs ∧ Ch key (2 * s.toNat) (z.take c) := by
      intro c z c1 c2 c3 hz
      refine ⟨hz.len.trans a3, (hz.eqf c1).trans a4, ?_⟩
      rw [take_mid z c1, hz.ahead]
      exact Ch.app (j := j) (by rw [List.length_take]; omega) a6 (Ch.one hz.sorted (by rw [mids_length _ (by rw [hz.len]; omega)]; omega))
    refine ifB_d (fun hb => ⟨by omega, (ys, a.toNat, (a + s).toNat, (a + 2 * s).toNat), a3.symm, by dsimp only; omega, by dsimp only; omega, by dsimp only; omega, rfl, ⟨by dsimp only; omega, by dsimp only; omega, by dsimp only; omega, by dsimp only; omega, by dsimp only; omega, ?_, ?_⟩, fun z hz => ⟨by omega, by omega, (a + 2 * s, a + 2 * s + 2 * s, z), ?_, by dsimp only; omega, rfl, rfl, rfl, trivial⟩⟩) fun hb =>
      ⟨by omega, ifB_d (fun hm => ⟨(ys, a.toNat, (a + s).toNat, xs.length), a3.symm, by dsimp only; omega, by dsimp only; omega, rfl, rfl, ⟨by dsimp only; omega, by dsimp only; omega, by dsimp only; omega, by dsimp only; omega, by dsimp only; omega, ?_, ?_⟩, fun z hz => ⟨by omega, (s * 2, z), ?_, by dsimp only; omega, rfl, rfl, trivial⟩⟩) fun hm => ⟨by omega, (s * 2, ys), ?_, by dsimp only; omega, rfl, rfl, trivial⟩⟩
    · dsimp only
      rw [show (a + s).toNat = a.toNat + s.toNat by omega, mid_take]
      exact a7.head
    · dsimp only
      rw [show (a + 2 * s).toNat = a.toNat + s.toNat + s.toNat by omega, show (a + s).toNat = a.toNat + s.toNat by omega, mid_take, ← List.drop_drop]
      exact a7.tail.head
    · obtain ⟨q1, q2, q3⟩ := step (a + 2 * s).toNat z (by omega) (by omega) (by omega) hz
      refine ⟨by dsimp only; omega, by dsimp only; omega, rfl, q1, q2, ⟨j + 1, ?_⟩, q3, ?_⟩
      · dsimp only
        rw [Nat.succ_mul]
        omega
      · dsimp only
        have hbh := hz.behind
        dsimp only at hbh
        rw [hbh, show (a + 2 * s).toNat = a.toNat + s.toNat + s.toNat by omega, ← List.drop_drop, ← List.drop_drop]
        exact a7.tail.tail
    · dsimp only
      rw [show (a + s).toNat = a.toNat + s.toNat by omega, mid_take]
      exact a7.head
    · dsimp only
      rw [show (a + s).toNat = a.toNat + s.toNat by omega, mid_take2 ys (s := s.toNat) a3 (by omega), ← List.drop_drop]
      exact a7.tail.head
    · obtain ⟨q1, q2, q3⟩ := step xs.length z (by omega) (by omega) (by omega) hz
      rw [List.take_of_length_le (by omega)] at q3
      exact ⟨by dsimp only; omega, by dsimp only; omega, q1, q2, by
        dsimp only
        rw [show (s * 2).toNat = 2 * s.toNat by omega]
        exact q3⟩
    · refine ⟨by dsimp only; omega, by dsimp only; omega, a3, a4, ?_⟩
      dsimp only
      rw [show (s * 2).toNat = 2 * s.toNat by omega, ← List.take_append_drop a.toNat ys]
      refine Ch.app (j := j) (by rw [List.length_take]; omega) a6 (Ch.one ?_ (by rw [List.length_drop]; omega))
      have := a7.head
      rwa [List.take_of_length_le (by rw [List.length_drop]; omega)] at this
  · rw [List.drop_eq_nil_of_le (by omega), List.drop_eq_nil_of_le (by omega)]
  · have := s4.head
    rw [List.take_of_length_le (by omega)] at this
    unfold mids
    rw [List.drop_zero, List.take_of_length_le (by omega)]
    exact this
  · unfold mids
    rw [List.drop_zero, List.drop_zero, List.take_of_length_le (by omega), List.take_of_length_le (by omega)]
    exact s3
end Sp
