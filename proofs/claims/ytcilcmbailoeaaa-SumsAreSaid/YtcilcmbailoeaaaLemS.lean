/- Plain facts on sums of sixteen digits: what fold, Add and Patch come to. -/
import Derived.Test.YtcilcmbailoeaaaKSx3
import Derived.Test.YtcilcmbailoeaaaKSx2
import Derived.OpenShut
namespace Go.Proofs.Ytcilcmbailoeaaa.Pure
open Go.RowKit Go.Proofs.Ytcilcmbailoeaaa.KS Go.Proofs.YtcilcmbailoeaaaW.PrintWords Go.Proofs.YtcilcmbailoeaaaW.PrintLast

theorem ev_pos {α : Type} {c : Prop} [Decidable c] {f g : Nat → Option α} {r : α} (h : c) (k : Ev f r) : Ev (fun n => if c then f n else g n) r := by
  simp only [if_pos h]; exact k
theorem ev_neg {α : Type} {c : Prop} [Decidable c] {f g : Nat → Option α} {r : α} (h : ¬ c) (k : Ev g r) : Ev (fun n => if c then f n else g n) r := by
  simp only [if_neg h]; exact k
theorem ev_some {α β : Type} {f : Nat → α → Option β} {o : Option α} {a : α} {r : β} (h : o = some a) (k : Ev (fun n => f n a) r) : Ev (fun n => o.bind (f n)) r := by
  simp only [h, Option.bind_some]; exact k
def red (n : Int) : Int := if n = 0 then 0 else (n - 1) % 65535 + 1
theorem red_bd (n : Int) : 0 ≤ red n ∧ red n ≤ 65535 := by unfold red; split <;> omega
theorem red_add (m n : Int) (hm : 0 ≤ m) (hn : 0 ≤ n) : red (m + n) = red (red m + red n) := by
  unfold red
  by_cases h1 : m = 0
  · subst h1
    by_cases h2 : n = 0
    · subst h2; simp
    · rw [Int.zero_add, if_neg h2, if_pos rfl, Int.zero_add, if_neg (by omega)]; omega
  · by_cases h2 : n = 0
    · subst h2
      rw [Int.add_zero, if_neg h1, if_pos rfl, Int.add_zero, if_neg (by omega)]; omega
    · rw [if_neg (by omega), if_neg h1, if_neg h2, if_neg (by omega)]; omega
theorem ev_fold (n : Int) (h0 : 0 ≤ n) (h1 : n ≤ 18446744073709551615) : Ev (fun k => sums_fold.f k n) (red n) := by
  obtain ⟨k, hk⟩ := fold_some n h0 h1
  exact Ev.of (fun k => sums_fold.mono n k) hk
theorem ev_add (x y : Int) (hx0 : 0 ≤ x) (hx1 : x ≤ 65535) (hy0 : 0 ≤ y) (hy1 : y ≤ 65535) : Ev (fun k => sums_Add.f k x y) (red (x + y)) := by
  unfold sums_Add.f
  rw [IntWalk.u64_in x (by omega), IntWalk.u64_in y (by omega), IntWalk.u64_in (x + y) (by omega)]
  exact Ev.bind (ev_fold (x + y) (by omega) (by omega)) (Ev.now _)
theorem ev_patch (x y z : Int) (hx0 : 0 ≤ x) (hx1 : x ≤ 65535) (hy0 : 0 ≤ y) (hy1 : y ≤ 65535) (hz0 : 0 ≤ z) (hz1 : z ≤ 65535) :
    Ev (fun k => sums_Patch.f k x y z) (65535 - red (65535 - x + (65535 - y) + z)) := by
  unfold sums_Patch.f
  rw [show IntKind.u16.max = 65535 from rfl, xor_all16 x hx0 hx1, xor_all16 y hy0 hy1, IntWalk.u64_in (65535 - x) (by omega), IntWalk.u64_in (65535 - y) (by omega), IntWalk.u64_in (65535 - x + (65535 - y)) (by omega), IntWalk.u64_in z (by omega), IntWalk.u64_in _ (by omega)]
  have hb := red_bd (65535 - x + (65535 - y) + z)
  refine Ev.bind (ev_fold _ (by omega) (by omega)) ?_
  rw [xor_all16 _ hb.1 hb.2]
  exact Ev.now _
theorem sum_is (l : List Int) (h : okb l) (hl : l.length ≤ 140737488355328) : sums_Sum.f l = some (65535 - red (wsum l)) := by
  unfold sums_Sum.f
  rw [if_pos ⟨h, hl⟩]
  rfl
theorem ev_awake : Ev (fun k => kedgelaw19_awake.f k) true := by
  unfold kedgelaw19_awake.f
  have h1 : sums_Sum.f [69, 0, 0, 60] = some 47811 := by decide
  have h2 : sums_Check.f [255, 255] = some true := by decide
  simp only [h1, h2, Option.bind_some, if_true]
  refine Ev.bind (ev_add 65535 1 (by omega) (by omega) (by omega) (by omega)) ?_
  rw [show red (65535 + 1) = 1 from by decide]
  exact Ev.now _
theorem u16_bd {x : Int} (h : (Lit.int .u16 x).wf = true) : 0 ≤ x ∧ x ≤ 65535 := by
  have := bounds_u16 h
  omega
theorem okb_of {l : List Int} (h : ∀ x ∈ l, (Lit.int .u8 x).wf = true) : okb l := fun x hx => by
  have := bounds_u8 (h x hx)
  omega
theorem wsum_app : ∀ (a b : List Int), a.length % 2 = 0 → wsum (a ++ b) = wsum a + wsum b
  | [], b, _ => by simp [wsum]
  | [x], b, h => by simp at h
  | x :: y :: t, b, h => by
    have h1 := wsum_app t b (by simp only [List.length_cons] at h; omega)
    simp only [List.cons_append, wsum, h1]
    omega
theorem wsum_pad : ∀ (a : List Int), a.length % 2 = 1 → wsum (a ++ [0]) = wsum a
  | [], h => by simp at h
  | [x], h => by simp [wsum]
  | x :: y :: t, h => by
    have h1 := wsum_pad t (by simp only [List.length_cons] at h; omega)
    simp only [List.cons_append, wsum, h1]
theorem okb_app {a b : List Int} (ha : okb a) (hb : okb b) : okb (a ++ b) := fun x hx => (List.mem_append.1 hx).elim (ha x) (hb x)
end Go.Proofs.Ytcilcmbailoeaaa.Pure
