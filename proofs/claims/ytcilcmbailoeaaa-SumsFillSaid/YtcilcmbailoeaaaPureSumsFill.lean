/- kedgelaw19.SumsFill: what is filled is checked; filled twice it is the same; other bytes stay. For all bytes, no condition. -/
import Derived.Test.YtcilcmbailoeaaaLemF
import Derived.Test.YtcilcmbailoeaaaKSx3
namespace Go.Proofs.Ytcilcmbailoeaaa.Pure
open Go.RowKit Go.Proofs.Ytcilcmbailoeaaa.KS Go.Proofs.YtcilcmbailoeaaaW.PrintWords Go.Proofs.YtcilcmbailoeaaaW.PrintLast

theorem sumsFill_l0 (l : List Int) (m : Nat) (hl : l.length ≤ 3000) (hm : 2 * m + 1 < l.length) : ∀ (d : Nat) (i : Int), 0 ≤ i → i ≤ l.length → (l.length : Int) - i = d →
    Ev (fun k => kedgelaw19_SumsFill.l0 k l true (2 * (m : Int)) (fillAt l m) i) true := by
  intro d
  induction d with
  | zero =>
    intro i h0 h1 hd
    refine Ev.step (f := fun k => kedgelaw19_SumsFill.l0 (k + 1) l true (2 * (m : Int)) (fillAt l m) i) (fun k => rfl) ?_
    simp only [kedgelaw19_SumsFill.l0]
    exact ev_neg (by omega) (Ev.now _)
  | succ d ih =>
    intro i h0 h1 hd
    have hn := ih (i + 1) (by omega) (by omega) (by omega)
    refine Ev.step (f := fun k => kedgelaw19_SumsFill.l0 (k + 1) l true (2 * (m : Int)) (fillAt l m) i) (fun k => rfl) ?_
    simp only [kedgelaw19_SumsFill.l0]
    rw [IntWalk.wrap64_in (i + 1) (by omega), IntWalk.wrap64_in (2 * (m : Int) + 1) (by omega)]
    refine ev_pos (by omega) ?_
    by_cases c1 : i = 2 * (m : Int)
    · exact ev_pos c1 hn
    refine ev_neg c1 ?_
    by_cases c2 : i = 2 * (m : Int) + 1
    · exact ev_pos c2 hn
    refine ev_neg c2 ?_
    refine ev_pos h0 ?_
    refine ev_pos (by rw [fill_len]; omega) ?_
    exact ev_pos (fill_rd l m i h0 c1 c2) hn

theorem SumsFill : kedgelaw19_SumsFill.Pure := by
  intro l a _ _ hb _
  replace hb := okb_of hb
  refine Ev.rounds (g := fun k => kedgelaw19_SumsFill.f k l a) ?_
  have out : Ev (fun k => kedgelaw19_SumsFill.j0 k l a true true) true := by
    refine Ev.step (f := fun k => kedgelaw19_SumsFill.j0 (k + 1) l a true true) (fun k => rfl) ?_
    simp only [kedgelaw19_SumsFill.j0]
    exact ev_pos (by simp) (Ev.now _)
  unfold kedgelaw19_SumsFill.f
  refine Ev.bind ev_awake ?_
  by_cases h1 : (l.length : Int) > 3000
  · exact ev_pos h1 out
  refine ev_neg h1 ?_
  by_cases h2 : (l.length : Int) < 2
  · rw [decide_eq_true h2]; exact out
  rw [decide_eq_false h2]
  refine Ev.step (f := fun k => kedgelaw19_SumsFill.j0 (k + 1) l a true false) (fun k => rfl) ?_
  simp only [kedgelaw19_SumsFill.j0]
  refine ev_neg (by simp) ?_
  rw [IntWalk.wrap64_in ((l.length : Int) / 2) (by omega), and_ffff, Int.tmod_eq_emod_of_nonneg (by omega)]
  obtain ⟨m, hm⟩ : ∃ m : Nat, a % 65536 % ((l.length : Int) / 2) = m := ⟨(a % 65536 % ((l.length : Int) / 2)).toNat, by
    have := Int.emod_nonneg (a % 65536) (show (l.length : Int) / 2 ≠ 0 by omega)
    omega⟩
  have hm2 : (m : Int) < (l.length : Int) / 2 := by rw [← hm]; exact Int.emod_lt_of_pos _ (by omega)
  rw [hm, IntWalk.wrap64_in _ (by omega), Int.mul_comm]
  refine ev_neg (by omega) ?_
  have hmm : 2 * m + 1 < l.length := by omega
  refine ev_some (fill_is l m hb (by omega) hmm) ?_
  refine ev_some (by rw [fill_is (fillAt l m) m (okb_fill hb m) (by rw [fill_len]; omega) (by rw [fill_len]; omega), fill_twice]) ?_
  refine ev_pos rfl ?_
  refine ev_pos rfl ?_
  refine ev_pos (by rw [fill_len]) ?_
  refine ev_pos rfl ?_
  have hc : sums_Check.f (fillAt l m) = some true := by
    unfold sums_Check.f
    rw [sum_is _ (okb_fill hb m) (by rw [fill_len]; omega), ← chk_red, chk_fill hb m hmm]
    rfl
  refine ev_some hc ?_
  refine Ev.step (f := fun k => kedgelaw19_SumsFill.j1 (k + 1) l true (2 * (m : Int)) (fillAt l m) (!true)) (fun k => rfl) ?_
  simp only [kedgelaw19_SumsFill.j1]
  refine ev_neg (by simp) ?_
  exact sumsFill_l0 l m (by omega) hmm l.length 0 (by omega) (by omega) (by omega)
end Go.Proofs.Ytcilcmbailoeaaa.Pure
