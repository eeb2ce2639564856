import Derived.Test.YtcilcmbailoeaaaKWx8
import Derived.Test.YtcilcmbailoeaaaLemW
namespace Go.Proofs.Ytcilcmbailoeaaa.Pure
open Go.RowKit Go.Proofs.Ytcilcmbailoeaaa.KW Go.Proofs.YtcilcmbailoeaaaW.PrintWords Go.Proofs.YtcilcmbailoeaaaW.PrintLast

theorem ev_rows_no (a b : List Int) : Ev (fun k => kedgelaw04_WireRows.j0 k a b true true) true := by
  refine Ev.step (f := fun k => kedgelaw04_WireRows.j0 (k + 1) a b true true) (fun k => rfl) ?_
  simp only [kedgelaw04_WireRows.j0]
  refine ev_pos (by trivial) ?_
  exact Ev.now _
theorem ev_rows (a b : List Int) (ha : okby a) (hb : okby b) (la : a.length ≤ 500) (lb : b.length ≤ 500) : Ev (fun k => kedgelaw04_WireRows.j0 k a b true false) true := by
  obtain ⟨xs, e, hx⟩ := reads_is a.length a (Nat.le_refl _) ha (by omega)
  obtain ⟨ys, f, hy⟩ := reads_is b.length b (Nat.le_refl _) hb (by omega)
  obtain ⟨zs, g, hz⟩ := reads_is (a ++ b).length (a ++ b) (Nat.le_refl _) (okby_app ha hb) (by rw [List.length_append]; omega)
  have lx := reads_len hx
  have ly := reads_len hy
  refine Ev.step (f := fun k => kedgelaw04_WireRows.j0 (k + 1) a b true false) (fun k => rfl) ?_
  simp only [kedgelaw04_WireRows.j0]
  refine ev_neg (by decide) ?_
  refine Ev.bind (ev_getAll hx (by omega)) ?_
  refine Ev.bind (ev_getAll hy (by omega)) ?_
  refine ev_some rfl ?_
  refine ev_pos (by simp; omega) ?_
  refine ev_some rfl ?_
  refine ev_pos (by simp; omega) ?_
  rw [List.nil_append]
  by_cases he : e = 0
  · have hz2 := reads_app hx he b ys f ha hb (by omega) hy
    refine Ev.bind (ev_getAll hz2 (by rw [List.length_append]; omega)) ?_
    refine ev_pos he ?_
    by_cases hf : f = 0
    · refine ev_pos hf ?_
      refine ev_pos (by simp only []; omega) ?_
      refine ev_pos (by trivial) ?_
      refine ev_pos hf ?_
      rw [if_pos hf]
      refine Ev.bind (ev_sames _ (by rw [List.length_append]; omega)) ?_
      exact Ev.now _
    · refine ev_neg hf ?_
      refine ev_pos (by trivial) ?_
      refine ev_pos (by trivial) ?_
      rw [if_neg hf]
      exact Ev.now _
  · refine Ev.bind (ev_getAll hz (by rw [List.length_append]; omega)) ?_
    refine ev_neg he ?_
    exact Ev.now _
theorem WireRows : kedgelaw04_WireRows.Pure := by
  intro a b _ _ ha _ _ hb
  refine Ev.rounds (g := fun k => kedgelaw04_WireRows.f k a b) ?_
  unfold kedgelaw04_WireRows.f
  refine ev_some awake_is ?_
  by_cases la : (a.length : Int) > 500
  · refine ev_pos la ?_
    exact ev_rows_no a b
  · refine ev_neg la ?_
    by_cases lb : (b.length : Int) > 500
    · rw [decide_eq_true lb]
      exact ev_rows_no a b
    · rw [decide_eq_false lb]
      exact ev_rows a b (okby_of ha) (okby_of hb) (by omega) (by omega)
end Go.Proofs.Ytcilcmbailoeaaa.Pure
