/- kedgelaw19.SumsOrder: words may be added in whatever order. For all words (numbers of 16 bits), no condition. -/
import Derived.Test.YtcilcmbailoeaaaLemS
namespace Go.Proofs.Ytcilcmbailoeaaa.Pure
open Go.RowKit Go.Proofs.Ytcilcmbailoeaaa.KS Go.Proofs.YtcilcmbailoeaaaW.PrintWords Go.Proofs.YtcilcmbailoeaaaW.PrintLast

theorem SumsOrder : kedgelaw19_SumsOrder.Pure := by
  intro x y z hx hy hz
  obtain ⟨x0, x1⟩ := u16_bd hx
  obtain ⟨y0, y1⟩ := u16_bd hy
  obtain ⟨z0, z1⟩ := u16_bd hz
  have bxy := red_bd (x + y)
  have byz := red_bd (y + z)
  refine Ev.rounds (g := fun k => kedgelaw19_SumsOrder.f k x y z) ?_
  unfold kedgelaw19_SumsOrder.f
  refine Ev.bind ev_awake ?_
  simp only [if_true]
  refine Ev.bind (ev_add x y x0 x1 y0 y1) ?_
  refine Ev.bind (ev_add y x y0 y1 x0 x1) ?_
  refine ev_pos (by rw [Int.add_comm]) ?_
  refine Ev.bind (ev_add _ z bxy.1 bxy.2 z0 z1) ?_
  refine Ev.bind (ev_add y z y0 y1 z0 z1) ?_
  refine Ev.bind (ev_add x _ x0 x1 byz.1 byz.2) ?_
  refine ev_pos (by
    have h1 := red_add (x + y) z (by omega) z0
    have h2 := red_add x (y + z) x0 (by omega)
    have e1 : red (red (x + y) + z) = red (x + y + z) := by
      rw [red_add (red (x + y)) z bxy.1 z0, h1]
      congr 1
      have : red (red (x + y)) = red (x + y) := by have := bxy; unfold red at *; split <;> split <;> omega
      rw [this]
    have e2 : red (x + red (y + z)) = red (x + (y + z)) := by
      rw [red_add x (red (y + z)) x0 byz.1, h2]
      congr 1
      have : red (red (y + z)) = red (y + z) := by have := byz; unfold red at *; split <;> split <;> omega
      rw [this]
    rw [e1, e2, Int.add_assoc]) ?_
  refine Ev.bind (ev_add x 0 x0 x1 (by omega) (by omega)) ?_
  have e0 : red (x + 0) = x := by rw [Int.add_zero]; unfold red; split <;> omega
  refine ev_pos e0 ?_
  rw [IntWalk.u16_in (65535 - x) (by omega)]
  refine Ev.bind (ev_add x (65535 - x) x0 x1 (by omega) (by omega)) ?_
  have e3 : red (x + (65535 - x)) = 65535 := by rw [show x + (65535 - x) = 65535 from by omega]; decide
  refine ev_pos e3 ?_
  by_cases hc : x = 65535
  · refine ev_pos hc ?_; exact Ev.now _
  · refine ev_neg hc ?_
    refine Ev.bind (ev_patch x y y x0 x1 y0 y1 y0 y1) ?_
    have e4 : 65535 - red (65535 - x + (65535 - y) + y) = x := by
      rw [show 65535 - x + (65535 - y) + y = (65535 - x) + 65535 from by omega]
      unfold red
      rw [if_neg (by omega)]
      omega
    rw [e4]
    simp only [beq_self_eq_true]
    exact Ev.now _
end Go.Proofs.Ytcilcmbailoeaaa.Pure
