/- kedgelaw19.SumsParts: the sum of words in two parts is the two parts' added; turned around they are summed alike. For all bytes, no condition. -/
import Derived.Test.YtcilcmbailoeaaaLemS
namespace Go.Proofs.Ytcilcmbailoeaaa.Pure
open Go.RowKit Go.Proofs.Ytcilcmbailoeaaa.KS Go.Proofs.YtcilcmbailoeaaaW.PrintWords Go.Proofs.YtcilcmbailoeaaaW.PrintLast

theorem parts_j1 (a b z : List Int) (ha : okb a) (hb : okb b) (hz : okb z) (la : a.length ≤ 1000) (lb : b.length ≤ 1000) (lz : z.length ≤ 1001) (he : a.length % 2 = 0) (hze : z.length % 2 = 0) (hzs : wsum z = wsum b) :
    Ev (fun k => kedgelaw19_SumsParts.j1 k a b true (a ++ b) z) true := by
  obtain ⟨a0, a1⟩ := wsum_bd a ha
  obtain ⟨b0, b1⟩ := wsum_bd b hb
  have ra := red_bd (wsum a)
  have rb := red_bd (wsum b)
  have rab := red_bd (wsum a + wsum b)
  refine Ev.step (f := _) (fun k => rfl) ?_
  refine ev_pos (by omega) ?_
  refine ev_some (sum_is a ha (by omega)) ?_
  refine ev_some (sum_is b hb (by omega)) ?_
  refine ev_pos rfl ?_
  have sab := sum_is (a ++ b) (okb_app ha hb) (by simp; omega)
  rw [wsum_app a b he] at sab
  refine ev_some sab ?_
  rw [IntWalk.u16_in _ (by omega), IntWalk.u16_in _ (by omega), IntWalk.u16_in _ (by omega)]
  rw [show 65535 - (65535 - red (wsum a)) = red (wsum a) from by omega, show 65535 - (65535 - red (wsum b)) = red (wsum b) from by omega, show 65535 - (65535 - red (wsum a + wsum b)) = red (wsum a + wsum b) from by omega]
  refine Ev.bind (ev_add _ _ ra.1 ra.2 rb.1 rb.2) ?_
  refine ev_pos (red_add _ _ a0 b0) ?_
  have sza := sum_is (z ++ a) (okb_app hz ha) (by simp; omega)
  rw [wsum_app z a hze, hzs, Int.add_comm] at sza
  refine ev_some sza ?_
  refine ev_pos rfl ?_
  have sc : sums_Check.f (a ++ b) = some ((65535 - red (wsum a + wsum b)) == 0) := by unfold sums_Check.f; rw [sab]; rfl
  refine ev_some sc ?_
  simp only [beq_self_eq_true]
  exact Ev.now _

theorem SumsParts : kedgelaw19_SumsParts.Pure := by
  intro a b _ _ ha _ _ hb
  replace ha := okb_of ha
  replace hb := okb_of hb
  refine Ev.rounds (g := fun k => kedgelaw19_SumsParts.f k a b) ?_
  have out : Ev (fun k => kedgelaw19_SumsParts.j0 k a b true true) true := by
    refine Ev.step (f := fun k => kedgelaw19_SumsParts.j0 (k + 1) a b true true) (fun k => rfl) ?_
    simp only [kedgelaw19_SumsParts.j0]
    exact ev_pos (by simp) (Ev.now _)
  unfold kedgelaw19_SumsParts.f
  refine Ev.bind ev_awake ?_
  by_cases h1 : (a.length : Int) > 1000
  · exact ev_pos h1 out
  refine ev_neg h1 ?_
  by_cases h2 : (b.length : Int) > 1000
  · exact ev_pos h2 out
  refine ev_neg h2 ?_
  by_cases h3 : (a.length : Int) % 2 = 0
  · rw [show ((a.length : Int) % 2 != 0) = false from by simp [h3]]
    refine Ev.step (f := fun k => kedgelaw19_SumsParts.j0 (k + 1) a b true false) (fun k => rfl) ?_
    simp only [kedgelaw19_SumsParts.j0]
    refine ev_neg (by simp) ?_
    refine ev_some rfl ?_
    refine ev_pos (by simp; omega) ?_
    refine ev_some rfl ?_
    refine ev_pos (by simp; omega) ?_
    refine ev_some rfl ?_
    refine ev_some rfl ?_
    refine ev_pos (by simp; omega) ?_
    refine ev_some rfl ?_
    simp only [List.nil_append]
    by_cases h4 : (b.length : Int) % 2 = 1
    · refine ev_pos h4 ?_
      refine ev_pos (by omega) ?_
      exact parts_j1 a b (b ++ [0]) ha hb (okb_app hb (by intro x hx; simp at hx; omega)) (by omega) (by omega) (by simp; omega) (by omega) (by simp; omega) (wsum_pad b (by omega))
    · refine ev_neg h4 ?_
      exact parts_j1 a b b ha hb hb (by omega) (by omega) (by omega) (by omega) (by omega) rfl
  · rw [show ((a.length : Int) % 2 != 0) = true from by simp [h3]]
    exact out
end Go.Proofs.Ytcilcmbailoeaaa.Pure
