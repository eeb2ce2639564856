import Derived.ProofKit
import Derived.Test.YthnhbnakpmkppaaGreatMgTableGoes19
section
set_option linter.all false
set_option maxRecDepth 10000
namespace Sp
open Go Go.Proofs Sx Go.Proofs.YthnhbnakpmkppaaGreat.Ma
/-! ### stretches of one length, each in order -/
def Ch (key : En → Int) (s : Nat) (l : List En) : Prop := ∀ i, SortedK key ((l.drop (i * s)).take s)
theorem Ch.one {key : En → Int} {s : Nat} {l : List En} (h : SortedK key l) (hl : l.length ≤ s) : Ch key s l := by
  intro i
  cases i with
  | zero => rw [Nat.zero_mul, List.drop_zero, List.take_of_length_le hl]; exact h
  | succ i => rw [List.drop_eq_nil_of_le (by rw [Nat.succ_mul]; omega), List.take_nil]; exact List.Pairwise.nil
theorem Ch.head {key : En → Int} {s : Nat} {l : List En} (h : Ch key s l) : SortedK key (l.take s) := by
  have := h 0
  rwa [Nat.zero_mul, List.drop_zero] at this
theorem Ch.tail {key : En → Int} {s : Nat} {l : List En} (h : Ch key s l) : Ch key s (l.drop s) := by
  intro i
  have := h (i + 1)
  rwa [show (i + 1) * s = s + i * s by rw [Nat.succ_mul, Nat.add_comm], ← List.drop_drop] at this
theorem Ch.app {key : En → Int} {s j : Nat} {l m : List En} (hl : l.length = j * s) (h : Ch key s l) (h2 : Ch key s m) : Ch key s (l ++ m) := by
  intro i
  rcases Nat.lt_or_ge i j with hi | hi
  · have h3 : i * s + s ≤ j * s := by
      have := Nat.mul_le_mul_right s hi
      rwa [Nat.succ_mul] at this
    rw [List.drop_append_of_le_length (by omega), List.take_append_of_le_length (by rw [List.length_drop]; omega)]
    exact h i
  · have h3 : j * s ≤ i * s := Nat.mul_le_mul_right s hi
    rw [List.drop_append, List.drop_eq_nil_of_le (by omega), List.nil_append, hl, show i * s - j * s = (i - j) * s by rw [Nat.sub_mul]]
    exact h2 (i - j)
theorem SSR.eqf {key : En → Int} {a b : Nat} {y z : List En} (hab : a ≤ b) (h : SSR key a b y z) : EqF key z y := by
  rw [split3 z hab, split3 y hab, h.ahead, h.behind]
  exact ((EqF.refl _ _).app h.same).app (EqF.refl _ _)
theorem take_mid {α : Type} (z : List α) {a b : Nat} (hab : a ≤ b) : z.take b = z.take a ++ mids z a b := by
  unfold mids
  have := List.take_append_drop a (z.take b)
  rw [List.take_take, Nat.min_eq_left hab] at this
  exact this.symm
theorem mid_take {α : Type} (z : List α) (a s : Nat) : mids z a (a + s) = (z.drop a).take s := by
  unfold mids
  rw [List.take_drop]
theorem mid_take2 {α : Type} (z : List α) {a s n : Nat} (h : z.length = n) (hn : n ≤ a + s) : mids z a n = (z.drop a).take s := by
  unfold mids
  rw [List.take_of_length_le (by omega), List.take_of_length_le (by rw [List.length_drop]; omega)]
theorem p_vstab (key : En → Int) : T_vstab key := by
  unfold T_vstab; try dsimp only [H_SpZt_1]
  intro xs hl
  have hl' : xs.length ≤ 1000000 := hl
  have hmost : most = 1000000 := rfl
  refine ⟨fun x => 0 ≤ x.1 ∧ x.1 ≤ xs.length ∧ x.2.1 = x.1 + 20 ∧ x.2.2.length = xs.length ∧ EqF key x.2.2 xs ∧ (∃ j, x.1.toNat = j * 20) ∧ Ch key 20 (x.2.2.take x.1.toNat), fun x => (xs.length - x.1).toNat,
    ⟨(0, 20, xs), ⟨by simp, by simp, by simp, rfl, EqF.refl _ _, ⟨0, by simp⟩, by
      dsimp only
      rw [show (0 : Int).toNat = 0 from rfl, List.take_zero]
      exact Ch.one List.Pairwise.nil (by simp)⟩, rfl, rfl, rfl, trivial⟩, ?_⟩
  rintro ⟨a, b, ys⟩ ⟨a0, a1, a2, a3, a4, ⟨j, a5⟩, a6⟩
  dsimp only at a0 a1 a2 a3 a4 a5 a6 ⊢
  subst a2
  have step : ∀ (c : Nat) z, a.toNat ≤ c → c ≤ xs.length → c ≤ a.toNat + 20 → SSR key a.toNat c ys z → z.length = xs.length ∧ EqF key z xs ∧ Ch key 20 (z.take c) := by
    intro c z c1 c2 c3 hz
    refine ⟨hz.len.trans a3, (hz.eqf c1).trans a4, ?_⟩
    rw [take_mid z c1, hz.ahead]
    exact Ch.app (j := j) (by rw [List.length_take]; omega) a6 (Ch.one hz.sorted (by rw [mids_length _ (by rw [hz.len]; omega)]; omega))
  refine ifB_d (fun hb => ⟨(ys, a.toNat, (a + 20).toNat), a3.symm, by dsimp only; omega, by dsimp only; omega, rfl, ⟨by dsimp only; omega, by dsimp only; omega, by dsimp only; omega⟩, fun z hz => ⟨by omega, (a + 20, a + 20 + 20, z), ?_, by dsimp only; omega, rfl, rfl, rfl, trivial⟩⟩) fun hb =>
    ⟨(ys, a.toNat, xs.length), a3.symm, by dsimp only; omega, rfl, rfl, ⟨by dsimp only; omega, by dsimp only; omega, by dsimp only; omega⟩, fun z hz => ?_⟩
  · obtain ⟨q1, q2, q3⟩ := step (a + 20).toNat z (by omega) (by omega) (by omega) hz
    exact ⟨by dsimp only; omega, by dsimp only; omega, rfl, q1, q2, ⟨j + 1, by dsimp only; omega⟩, q3⟩
  obtain ⟨q1, q2, q3⟩ := step xs.length z (by omega) (by omega) (by omega) hz
  rw [List.take_of_length_le (by omega)] at q3
  refine ⟨fun x => 20 ≤ x.1 ∧ x.1 ≤ 2 * xs.length + 20 ∧ x.2.length = xs.length ∧ EqF key x.2 xs ∧ Ch key x.1.toNat x.2, fun x => (xs.length - x.1).toNat, ⟨(20, z), ⟨by simp, by dsimp only; omega, q1, q2, q3⟩, rfl, rfl, trivial⟩, ?_⟩
  clear q1 q2 q3 hz z step a0 a1 a3 a4 a5 a6 hb
  rintro ⟨s, ys⟩ ⟨s0, s1, s2, s3, s4⟩
  dsimp only at s0 s1 s2 s3 s4 ⊢
  refine ifB_d (fun hs => ⟨by omega, ?_⟩) fun hs => ⟨ys, ⟨s2, rfl, ?_, ?_, ?_⟩, rfl, trivial⟩
  · have S0 : ((s.toNat : Nat) : Int) = s := by omega
    refine ⟨fun x => 0 ≤ x.1 ∧ x.1 ≤ xs.length ∧ x.2.1 = x.1 + 2 * s ∧ x.2.2.length = xs.length ∧ EqF key x.2.2 xs ∧ (∃ j, x.1.toNat = j * (2 * s.toNat)) ∧ Ch key (2 * s.toNat) (x.2.2.take x.1.toNat) ∧ Ch key s.toNat (x.2.2.drop x.1.toNat), fun x => (xs.length - x.1).toNat,
      ⟨(0, 2 * s, ys), ⟨by simp, by simp, by dsimp only; omega, s2, s3, ⟨0, by simp⟩, by
        dsimp only
        rw [show (0 : Int).toNat = 0 from rfl, List.take_zero]
        exact Ch.one List.Pairwise.nil (by simp), by
        dsimp only
        rw [show (0 : Int).toNat = 0 from rfl, List.drop_zero]
        exact s4⟩, rfl, rfl, rfl, trivial⟩, ?_⟩
    clear s4 s3 s2 j
    rintro ⟨a, b, ys⟩ ⟨a0, a1, a2, a3, a4, ⟨j, a5⟩, a6, a7⟩
    dsimp only at a0 a1 a2 a3 a4 a5 a6 a7 ⊢
    subst a2
    have step : ∀ (c : Nat) z, a.toNat ≤ c → c ≤ xs.length → c ≤ a.toNat + 2 * s.toNat → SSR key a.toNat c ys z → z.length = xs.length ∧ EqF key z xs ∧ Ch key (2 * s.toNat) (z.take c) := by
      intro c z c1 c2 c3 hz
      refine ⟨hz.len.trans a3, (hz.eqf c1).trans a4, ?_⟩
      rw [take_mid z c1, hz.ahead]
      exact Ch.app (j := j) (by rw [List.length_take]; omega) a6 (Ch.one hz.sorted (by rw [mids_length _ (by rw [hz.len]; omega)]; omega))
    refine ifB_d (fun hb => ⟨by omega, (ys, a.toNat, (a + s).toNat, (a + 2 * s).toNat), a3.symm, by dsimp only; omega, by dsimp only; omega, by dsimp only; omega, rfl, ⟨by dsimp only; omega, by dsimp only; omega, by dsimp only; omega, by dsimp only; omega, by dsimp only; omega, ?_, ?_⟩, fun z hz => ⟨by omega, by omega, (a + 2 * s, a + 2 * s + 2 * s, z), ?_, by dsimp only; omega, rfl, rfl, rfl, trivial⟩⟩) fun hb =>
      ⟨by omega, ifB_d (fun hm => ⟨(ys, a.toNat, (a + s).toNat, xs.length), a3.symm, by dsimp only; omega, by dsimp only; omega, rfl, rfl, ⟨by dsimp only; omega, by dsimp only; omega, by dsimp only; omega, by dsimp only; omega, by dsimp only; omega, ?_, ?_⟩, fun z hz => ⟨by omega, (s * 2, z), ?_, by dsimp only; omega, rfl, rfl, trivial⟩⟩) fun hm => ⟨by omega, (s * 2, ys), ?_, by dsimp only; omega, rfl, rfl, trivial⟩⟩
    · dsimp only
      rw [show (a + s).toNat = a.toNat + s.toNat by omega, mid_take]
      exact a7.head
    · dsimp only
      rw [show (a + 2 * s).toNat = a.toNat + s.toNat + s.toNat by omega, show (a + s).toNat = a.toNat + s.toNat by omega, mid_take, ← List.drop_drop]
      exact a7.tail.head
    · obtain ⟨q1, q2, q3⟩ := step (a + 2 * s).toNat z (by omega) (by omega) (by omega) hz
      refine ⟨by dsimp only; omega, by dsimp only; omega, rfl, q1, q2, ⟨j + 1, ?_⟩, q3, ?_⟩
      · dsimp only
        rw [Nat.succ_mul]
        omega
      · dsimp only
        have hbh := hz.behind
        dsimp only at hbh
        rw [hbh, show (a + 2 * s).toNat = a.toNat + s.toNat + s.toNat by omega, ← List.drop_drop, ← List.drop_drop]
        exact a7.tail.tail
    · dsimp only
      rw [show (a + s).toNat = a.toNat + s.toNat by omega, mid_take]
      exact a7.head
    · dsimp only
      rw [show (a + s).toNat = a.toNat + s.toNat by omega, mid_take2 ys (s := s.toNat) a3 (by omega), ← List.drop_drop]
      exact a7.tail.head
    · obtain ⟨q1, q2, q3⟩ := step xs.length z (by omega) (by omega) (by omega) hz
      rw [List.take_of_length_le (by omega)] at q3
      exact ⟨by dsimp only; omega, by dsimp only; omega, q1, q2, by
        dsimp only
        rw [show (s * 2).toNat = 2 * s.toNat by omega]
        exact q3⟩
    · refine ⟨by dsimp only; omega, by dsimp only; omega, a3, a4, ?_⟩
      dsimp only
      rw [show (s * 2).toNat = 2 * s.toNat by omega, ← List.take_append_drop a.toNat ys]
      refine Ch.app (j := j) (by rw [List.length_take]; omega) a6 (Ch.one ?_ (by rw [List.length_drop]; omega))
      have := a7.head
      rwa [List.take_of_length_le (by rw [List.length_drop]; omega)] at this
  · rw [List.drop_eq_nil_of_le (by omega), List.drop_eq_nil_of_le (by omega)]
  · have := s4.head
    rw [List.take_of_length_le (by omega)] at this
    unfold mids
    rw [List.drop_zero, List.take_of_length_le (by omega)]
    exact this
  · unfold mids
    rw [List.drop_zero, List.drop_zero, List.take_of_length_le (by omega), List.take_of_length_le (by omega)]
    exact s3
end Sp
end
section
set_option linter.all false
namespace Sp
open Go Go.Proofs Sx Go.Proofs.YthnhbnakpmkppaaGreat.Ma
def insK (key : En → Int) (x : En) : List En → List En
  | [] => [x]
  | y :: l => if key x ≤ key y then x :: y :: l else y :: insK key x l
def isVK (key : En → Int) : List En → List En
  | [] => []
  | x :: l => insK key x (isVK key l)
def keyOf (pol : Int) : En → Int := if pol = 1 then key1 else key0
def rankK (pol : Int) (l : List En) : List En := isVK (keyOf pol) l.reverse
def chooseK (pol : Int) (l : List En) : Int × Bool := match rankK pol l with
  | [] => (0, false)
  | e :: _ => (e.1, true)
def ChooseP (p : Int → Prop) : Con := .look (Int × List En) (fun x => [.i .i64 x.1, .one (.f 0 x.2.length)]) (fun x => [.row false enK x.2]) (fun x => p x.1 ∧ x.2.length ≤ most) fun x => .tup [.i .i64 (chooseK x.1 x.2).1, .b (chooseK x.1 x.2).2]
def RankP (p : Int → Prop) : Con := .row1 (Int × List En) (fun x => [.i .i64 x.1, .one (.f 0 x.2.length)]) (fun x => [.row false enK x.2]) 1 (fun x => p x.1 ∧ x.2.length ≤ most) intK (fun x => (rankK x.1 x.2).map (·.1)) fun _ a => .a a
def Y2 : List (Nat × Con) := (308, StabS 294 key1) :: V1
def Y3 : List (Nat × Con) := (308, StabS 293 key0) :: V1
def SV1 : List (Nat × Con) := (298, SortS 294 key1) :: V1
def SV0 : List (Nat × Con) := (298, SortS 293 key0) :: V1
def LqRk : FuncId → Nat → Lan
  | _, _ => .none
end Sp
end
section
set_option linter.all false
set_option maxRecDepth 100000
namespace Sp
open Go Go.Proofs Sx
@[reducible] def H_SpRkt_1 (v1 : Int × List En) : Prop :=
 ∃ (b1 : List (Int × Int)), v1.2.length = b1.length /\ v1.2 = b1 /\ b1.length <= most /\ ∀ (b2 : Unit), True -> ∃ (b3 : List En), b1.length = b3.length /\ b1 = b3 /\ b3.length <= most /\ ∀ (b4 : List
 En), b4 = b3.reverse -> ∃ (b5 : List En), b1.length = b5.length /\ False
def T_vsort (key : En → Int) : Prop :=
 ∀ (x : List En), x.length <= most -> ∃ (x_1 : List En), x.length = x_1.length /\ (↑x.length : Int) = (↑x_1.length : Int) /\ x = x_1 /\ x_1.length <= most /\ ∀ (y : List En), SSR key (0 : Nat)
 x_1.length x_1 y -> ∃ (y_1 : List En), SSR key (0 : Nat) x.length x y_1 /\ y = y_1 /\ True
def T_vch1  : Prop :=
 ∀ (x : Int × List En), x.1 = (1 : Int) /\ x.2.length <= most -> ifB (decide ((↑x.2.length : Int) = (0 : Int))) (∃ (y : Unit), True /\ (0 : Int) = (chooseK x.1 x.2).1 /\ false = (chooseK x.1 x.2).2 /\
 True) (ifB (decide (x.1 = (1 : Int))) (∃ (x_1 : List (Int × Int)), x.2.length = x_1.length /\ x.2 = x_1 /\ x_1.length <= most /\ ∀ (y : Unit), True -> ∃ (x_2 : List En), x_1.length = x_2.length /\ x_1
 = x_2 /\ x_2.length <= most /\ ∀ (y : List En), y = x_2.reverse -> ∃ (x_3 : List En), x_1.length = x_3.length /\ y = x_3 /\ x_3.length <= most /\ ∀ (y : List En), SSR key1 (0 : Nat) x_3.length x_3 y
 -> ((0 : Int) <= (0 : Int) /\ (0 : Int) < (↑x_1.length : Int)) /\ ∃ (y_1 : Unit), True /\ (y.getD (0 : Nat) ((0 : Int), (0 : Int))).1 = (chooseK x.1 x.2).1 /\ true = (chooseK x.1 x.2).2 /\ True)
 (H_SpRkt_1 x))
def T_vch0  : Prop :=
 ∀ (x : Int × List En), x.1 ≠ (1 : Int) /\ x.2.length <= most -> ifB (decide ((↑x.2.length : Int) = (0 : Int))) (∃ (y : Unit), True /\ (0 : Int) = (chooseK x.1 x.2).1 /\ false = (chooseK x.1 x.2).2 /\
 True) (ifB (decide (x.1 = (1 : Int))) (H_SpRkt_1 x) (∃ (x_1 : List (Int × Int)), x.2.length = x_1.length /\ x.2 = x_1 /\ x_1.length <= most /\ ∀ (y : Unit), True -> ∃ (x_2 : List En), x_1.length =
 x_2.length /\ x_1 = x_2 /\ x_2.length <= most /\ ∀ (y : List En), y = x_2.reverse -> ∃ (x_3 : List En), x_1.length = x_3.length /\ y = x_3 /\ x_3.length <= most /\ ∀ (y : List En), SSR key0 (0 : Nat)
 x_3.length x_3 y -> ((0 : Int) <= (0 : Int) /\ (0 : Int) < (↑x_1.length : Int)) /\ ∃ (y_1 : Unit), True /\ (y.getD (0 : Nat) ((0 : Int), (0 : Int))).1 = (chooseK x.1 x.2).1 /\ true = (chooseK x.1
 x.2).2 /\ True))
theorem o_vsort : owes Tryz.prog (tab Y2) LqRk 0 298 Tryz.f298 (SortS 294 key1) = T_vsort key1 := by kernel_rfl
theorem o_vsort0 : owes Tryz.prog (tab Y3) LqRk 0 298 Tryz.f298 (SortS 293 key0) = T_vsort key0 := by kernel_rfl
theorem o_vch1 : owes Tryz.prog (tab SV1) LqRk 3 221 Tryz.f221 (ChooseP (· = 1)) = T_vch1 := by kernel_rfl
theorem o_vch0 : owes Tryz.prog (tab SV0) LqRk 3 221 Tryz.f221 (ChooseP (· ≠ 1)) = T_vch0 := by kernel_rfl
end Sp
end
section
set_option linter.all false
set_option maxRecDepth 10000
namespace Sp
open Go Go.Proofs Sx Go.Proofs.YthnhbnakpmkppaaGreat.Ma
theorem insK_eqf (key : En → Int) (x : En) : ∀ l, EqF key (insK key x l) (x :: l)
  | [] => EqF.refl _ _
  | y :: l => by
    unfold insK
    split
    · exact EqF.refl _ _
    · rename_i h
      have h1 : EqF key ([y] ++ insK key x l) ([y] ++ (x :: l)) := (EqF.refl key [y]).app (insK_eqf key x l)
      have h2 : EqF key (([y] ++ [x]) ++ l) (([x] ++ [y]) ++ l) := (EqF.swap (by intro a ha b hb; simp at ha hb; rw [ha, hb]; omega)).app (EqF.refl key l)
      exact h1.trans h2
theorem isK_eqf (key : En → Int) : ∀ l, EqF key (isVK key l) l
  | [] => EqF.refl _ _
  | x :: l => (insK_eqf key x (isVK key l)).trans (by
      have := (EqF.refl key [x]).app (isK_eqf key l)
      exact this)
theorem insK_sorted (key : En → Int) (x : En) : ∀ {l}, SortedK key l → SortedK key (insK key x l)
  | [], _ => List.pairwise_singleton _ _
  | y :: l, h => by
    have hp := List.pairwise_cons.1 h
    unfold insK
    split
    · rename_i hxy
      refine List.pairwise_cons.2 ⟨fun z hz => ?_, h⟩
      rcases List.mem_cons.1 hz with rfl | hz
      · exact hxy
      · have := hp.1 z hz
        omega
    · rename_i hxy
      refine List.pairwise_cons.2 ⟨fun z hz => ?_, insK_sorted key x hp.2⟩
      rcases List.mem_cons.1 (((insK_eqf key x l).length z).1 hz) with rfl | hz
      · omega
      · exact hp.1 z hz
theorem isK_sorted (key : En → Int) : ∀ l, SortedK key (isVK key l)
  | [] => List.Pairwise.nil
  | x :: l => insK_sorted key x (isK_sorted key l)
theorem insK_length (key : En → Int) (x : En) : ∀ l, (insK key x l).length = l.length + 1
  | [] => rfl
  | y :: l => by
    unfold insK
    split
    · rfl
    · rw [List.length_cons, insK_length key x l, List.length_cons]
theorem isK_length (key : En → Int) : ∀ l, (isVK key l).length = l.length
  | [] => rfl
  | x :: l => by rw [isVK, insK_length, isK_length key l, List.length_cons]
theorem SSR.isVK {key : En → Int} {l m : List En} (h : SSR key 0 l.length l m) : m = isVK key l := by
  have e1 : mids m 0 l.length = m := by unfold mids; rw [List.drop_zero, List.take_of_length_le (by rw [h.len]; exact Nat.le_refl _)]
  have e2 : mids l 0 l.length = l := by unfold mids; rw [List.drop_zero, List.take_of_length_le (Nat.le_refl _)]
  have s := h.sorted
  have q := h.same
  rw [e1] at s q
  rw [e2] at q
  exact sorted_one s (isK_sorted key l) (q.trans (isK_eqf key l).symm)
theorem rankK_length (pol : Int) (l : List En) : (rankK pol l).length = l.length := by unfold rankK; rw [isK_length, List.length_reverse]
theorem ent_of {f : FuncId} {fn : Func} {c : Code} (h : Tryz.prog.funcs[f]? = some fn) (hb : fn.body = some c) : Ent Tryz.prog f := ⟨fn, c, h, hP f fn h, hb⟩
theorem g_sym1 : ∀ n, Good Tryz.prog 314 (SymS 294 key1 n)
  | 0 => ⟨ent_of Tryz.func314 rfl, by
      rintro ⟨xs, a, m, b⟩ ⟨h1, h2, _, _, h5, _⟩
      dsimp only at h1 h2 h5
      omega⟩
  | n + 1 => good_of_owes hM hP (goods_cons (g_sym1 n) GV1) Tryz.func314 rfl (Eq.mpr o_vsym (p_vsym key1) n)
theorem g_sym0 : ∀ n, Good Tryz.prog 314 (SymS 293 key0 n)
  | 0 => ⟨ent_of Tryz.func314 rfl, by
      rintro ⟨xs, a, m, b⟩ ⟨h1, h2, _, _, h5, _⟩
      dsimp only at h1 h2 h5
      omega⟩
  | n + 1 => good_of_owes hM hP (goods_cons (g_sym0 n) GV1) Tryz.func314 rfl (Eq.mpr o_vsym0 (p_vsym key0) n)
theorem GZ1 : Goods Tryz.prog Z1 := goods_cons (g_sym1 most) (goods_cons g_ins1 GV1)
theorem GZ0 : Goods Tryz.prog Z0 := goods_cons (g_sym0 most) (goods_cons g_ins0 GV1)
theorem GY2 : Goods Tryz.prog Y2 := goods_cons (good_of_owes hM hP GZ1 Tryz.func308 rfl (o_vstab ▸ p_vstab key1)) GV1
theorem GY3 : Goods Tryz.prog Y3 := goods_cons (good_of_owes hM hP GZ0 Tryz.func308 rfl (o_vstab0 ▸ p_vstab key0)) GV1
theorem p_vsort (key : En → Int) : T_vsort key := by
  intro xs hl
  exact ⟨xs, rfl, rfl, rfl, hl, fun y hy => ⟨y, hy, rfl, trivial⟩⟩
theorem GSV1 : Goods Tryz.prog SV1 := goods_cons (good_of_owes hM hP GY2 Tryz.func298 rfl (o_vsort ▸ p_vsort key1)) GV1
theorem GSV0 : Goods Tryz.prog SV0 := goods_cons (good_of_owes hM hP GY3 Tryz.func298 rfl (o_vsort0 ▸ p_vsort key0)) GV1
theorem chooseK_eq (pol : Int) {l : List En} (h : l.length ≠ 0) : chooseK pol l = (((rankK pol l).getD 0 (0, 0)).1, true) := by
  unfold chooseK
  have := rankK_length pol l
  match hr : rankK pol l with
  | [] => rw [hr] at this; simp at this; omega
  | e :: r => rfl
theorem p_vch1 : T_vch1 := by
  unfold T_vch1; try dsimp only [H_SpRkt_1]
  rintro ⟨pol, l⟩ ⟨rfl, hl⟩
  dsimp only at hl ⊢
  refine ifB_d (fun h => ?_) fun h => ifB_eq rfl ?_
  · obtain rfl : l = [] := List.eq_nil_of_length_eq_zero (by omega)
    exact ⟨(), trivial, rfl, rfl, trivial⟩
  · refine ⟨l, rfl, rfl, hl, fun _ _ => ⟨l, rfl, rfl, hl, fun y hy => ⟨y, by rw [hy, List.length_reverse], rfl, by rw [hy, List.length_reverse]; exact hl, fun z hz => ⟨by omega, (), trivial, ?_, ?_, trivial⟩⟩⟩⟩
    · rw [chooseK_eq 1 (by omega), hz.isVK, hy]
      rfl
    · rw [chooseK_eq 1 (by omega)]
theorem p_vch0 : T_vch0 := by
  unfold T_vch0; try dsimp only [H_SpRkt_1]
  rintro ⟨pol, l⟩ ⟨hp, hl⟩
  dsimp only at hp hl ⊢
  have hk : keyOf pol = key0 := if_neg hp
  refine ifB_d (fun h => ?_) fun h => ifB_d (fun e => absurd e hp) fun _ => ?_
  · obtain rfl : l = [] := List.eq_nil_of_length_eq_zero (by omega)
    exact ⟨(), trivial, rfl, rfl, trivial⟩
  · refine ⟨l, rfl, rfl, hl, fun _ _ => ⟨l, rfl, rfl, hl, fun y hy => ⟨y, by rw [hy, List.length_reverse], rfl, by rw [hy, List.length_reverse]; exact hl, fun z hz => ⟨by omega, (), trivial, ?_, ?_, trivial⟩⟩⟩⟩
    · rw [chooseK_eq pol (by omega), hz.isVK, hy]
      unfold rankK
      rw [hk]
    · rw [chooseK_eq pol (by omega)]
theorem take_get (l : List En) {i : Nat} (h : i < l.length) : (l.take (i + 1)).map (·.1) = (l.take i).map (·.1) ++ [(l.getD i (0, 0)).1] := by
  rw [List.take_succ, getD_some (0, 0) h, List.map_append]
  rfl
theorem g_choose : Good Tryz.prog 221 (ChooseP fun _ => True) := by
  have h1 := good_of_owes hM hP GSV1 Tryz.func221 rfl (o_vch1 ▸ p_vch1)
  have h0 := good_of_owes hM hP GSV0 Tryz.func221 rfl (o_vch0 ▸ p_vch0)
  exact ⟨h1.1, fun x hx => if e : x.1 = 1 then h1.2 x ⟨e, hx.2⟩ else h0.2 x ⟨e, hx.2⟩⟩
end Sp
end
