-- Written by kprint.py, a program of this session, over the kit's print.py; functions marked HAND are our own texts.
import Derived.Test.YtcilcmbailoeaaaKWx0
import Derived.Test.YtcilcmbailoeaaaKWx2
namespace Go.Proofs.Ytcilcmbailoeaaa.KW
open Go.RowKit Go.Proofs.YtcilcmbailoeaaaW.PrintWords Go.Proofs.YtcilcmbailoeaaaW.PrintLast Go.Proofs.YtcilcmbailoeaaaW.PrintMore
attribute [local go_sem] max2_int min2_int max_two min_two max_three min_three max_four min_four   -- for this text's walks alone
set_option linter.unusedVariables false
set_option linter.unusedSimpArgs false

theorem eqA41 (d : Nat) (w : World) (x0 y0 : Int) (x1 y1 : Int) (x2 y2 : Bool) (x3 y3 : Int) (x4 y4 : Int) :
    (Op.equalIn (d + 4) 41 (.agg #[.int .u64 x0, .int .u64 x1, .bool x2, .int .i64 x3, .int .i64 x4]) (.agg #[.int .u64 y0, .int .u64 y1, .bool y2, .int .i64 y3, .int .i64 y4])).run Try.prog w = .ok (((x0 == y0 && (x1 == y1 && (x2 == y2))) && (x3 == y3)) && (x4 == y4)) w := by
  refine eqA_of Try.underlying41 (by kernel_rfl) ?_
  refine eqf_cons (by rfl) (by go_simp) (by go_simp) (eqA39 (d + 0) w _ _ _ _ _ _ _ _) ?_
  exact eqf_last (by rfl) (by go_simp; rfl) (by go_simp; rfl) (by go_simp)
end Go.Proofs.Ytcilcmbailoeaaa.KW
