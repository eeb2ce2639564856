/- Printed by sx.py, a program of this work: what the walks of some functions owe. -/
import Derived.Test.YtcilcmbailoeaaaSpL20
import Derived.ProofKit
set_option linter.all false
set_option maxRecDepth 100000
namespace Sp
open Go Go.Proofs Sx
def T_back4 : Prop :=
  ∀ (x : Hd × List Int),
    (((((0 : Int) ≤ (hSrc x.fst).fst ∧ (hSrc x.fst).fst < (18446744073709551616 : Int)) ∧
            (0 : Int) ≤ (hSrc x.fst).snd.fst ∧ (hSrc x.fst).snd.fst < (18446744073709551616 : Int)) ∧
          ((0 : Int) ≤ (hDst x.fst).fst ∧ (hDst x.fst).fst < (18446744073709551616 : Int)) ∧
            (0 : Int) ≤ (hDst x.fst).snd.fst ∧ (hDst x.fst).snd.fst < (18446744073709551616 : Int)) ∧
        ∀ (x_1 : Int), List.Mem x_1 x.snd → (0 : Int) ≤ x_1 ∧ x_1 ≤ (255 : Int)) →
      ∃ (x_1 : Unit),
        True ∧
          ∀ (y : Unit),
            True →
              ifB (decide ((1500 : Int) < (↑x.snd.length : Int))) (∃ (y : Unit), True ∧ true = true ∧ True)
                (∃ (x_2 : Hd × List Int),
                  x.fst.fst = x_2.fst.fst ∧
                    x.fst.snd.fst = x_2.fst.snd.fst ∧
                      x.fst.snd.snd.fst = x_2.fst.snd.snd.fst ∧
                        x.fst.snd.snd.snd.fst = x_2.fst.snd.snd.snd.fst ∧
                          x.fst.snd.snd.snd.snd.fst = x_2.fst.snd.snd.snd.snd.fst ∧
                            x.fst.snd.snd.snd.snd.snd.fst = x_2.fst.snd.snd.snd.snd.snd.fst ∧
                              x.fst.snd.snd.snd.snd.snd.snd.fst = x_2.fst.snd.snd.snd.snd.snd.snd.fst ∧
                                x.fst.snd.snd.snd.snd.snd.snd.snd.fst = x_2.fst.snd.snd.snd.snd.snd.snd.snd.fst ∧
                                  x.fst.snd.snd.snd.snd.snd.snd.snd.snd.fst =
                                      x_2.fst.snd.snd.snd.snd.snd.snd.snd.snd.fst ∧
                                    x.fst.snd.snd.snd.snd.snd.snd.snd.snd.snd =
                                        x_2.fst.snd.snd.snd.snd.snd.snd.snd.snd.snd ∧
                                      x.snd.length = x_2.snd.length ∧
                                        x.snd = x_2.snd ∧
                                          (((((0 : Int) ≤ (hSrc x_2.fst).fst ∧
                                                    (hSrc x_2.fst).fst < (18446744073709551616 : Int)) ∧
                                                  (0 : Int) ≤ (hSrc x_2.fst).snd.fst ∧
                                                    (hSrc x_2.fst).snd.fst < (18446744073709551616 : Int)) ∧
                                                ((0 : Int) ≤ (hDst x_2.fst).fst ∧
                                                    (hDst x_2.fst).fst < (18446744073709551616 : Int)) ∧
                                                  (0 : Int) ≤ (hDst x_2.fst).snd.fst ∧
                                                    (hDst x_2.fst).snd.fst < (18446744073709551616 : Int)) ∧
                                              ∀ (x : Int), List.Mem x x_2.snd → (0 : Int) ≤ x ∧ x ≤ (255 : Int)) ∧
                                            ∀ (y : Unit),
                                              True →
                                                ∃ (x_3 : List Int),
                                                  (build4 x_2.fst x_2.snd).length = x_3.length ∧
                                                    build4 x_2.fst x_2.snd = x_3 ∧
                                                      (∀ (x : Int), List.Mem x x_3 → (0 : Int) ≤ x ∧ x ≤ (255 : Int)) ∧
                                                        ∀ (y : Unit),
                                                          True →
                                                            ((-9223372036854775808 : Int) ≤
                                                                  (20 : Int) + (↑x.snd.length : Int) ∧
                                                                (20 : Int) + (↑x.snd.length : Int) ≤
                                                                  (9223372036854775807 : Int)) ∧
                                                              ifB
                                                                (!decide
                                                                    ((↑(build4 x_2.fst x_2.snd).length : Int) =
                                                                      (20 : Int) + (↑x.snd.length : Int)))
                                                                (∃ (y : Unit), True ∧ false = true ∧ True)
                                                                (((0 : Int) ≤ (20 : Int) ∧
                                                                    (20 : Int) ≤
                                                                      (↑(build4 x_2.fst x_2.snd).length : Int)) ∧
                                                                  ifB
                                                                    (!decide
                                                                        (List.drop (20 : Nat)
                                                                            (List.take (build4 x_2.fst x_2.snd).length
                                                                              (build4 x_2.fst x_2.snd)) =
                                                                          x.snd))
                                                                    (∃ (y : Unit), True ∧ false = true ∧ True)
                                                                    (((0 : Int) ≤ (20 : Int) ∧
                                                                        (20 : Int) ≤
                                                                          (↑(build4 x_2.fst x_2.snd).length : Int)) ∧
                                                                      ∃ (x_4 : List Int),
                                                                        (20 : Nat) = x_4.length ∧
                                                                          List.drop (0 : Nat)
                                                                                (List.take (20 : Nat)
                                                                                  (build4 x_2.fst x_2.snd)) =
                                                                              x_4 ∧
                                                                            ((∀ (x : Int),
                                                                                  List.Mem x x_4 →
                                                                                    (0 : Int) ≤ x ∧ x ≤ (255 : Int)) ∧
                                                                                x_4.length ≤ most) ∧
                                                                              ∀ (y : Unit),
                                                                                True →
                                                                                  ifB (!decide (sumZ x_4 = (0 : Int)))
                                                                                    (∃ (y : Unit),
                                                                                      True ∧ false = true ∧ True)
                                                                                    (((0 : Int) ≤ (12 : Int) ∧
                                                                                        (12 : Int) <
                                                                                          (↑(build4 x_2.fst
                                                                                                  x_2.snd).length :
                                                                                            Int)) ∧
                                                                                      ifB
                                                                                        (decide
                                                                                          ((build4 x_2.fst x_2.snd).getD
                                                                                              (12 : Nat) (0 : Int) =
                                                                                            (127 : Int)))
                                                                                        (∃ (y : Unit),
                                                                                          True ∧
                                                                                            decide
                                                                                                  ((parse4 x_3).snd =
                                                                                                    (6 : Int)) =
                                                                                                true ∧
                                                                                              True)
                                                                                        (((0 : Int) ≤ (12 : Int) ∧
                                                                                            (12 : Int) <
                                                                                              (↑(build4 x_2.fst
                                                                                                      x_2.snd).length :
                                                                                                Int)) ∧
                                                                                          ifB
                                                                                            (decide
                                                                                              ((224 : Int) ≤
                                                                                                (build4 x_2.fst
                                                                                                      x_2.snd).getD
                                                                                                  (12 : Nat) (0 : Int)))
                                                                                            (∃ (y : Unit),
                                                                                              True ∧
                                                                                                decide
                                                                                                      ((parse4 x_3).snd =
                                                                                                        (6 : Int)) =
                                                                                                    true ∧
                                                                                                  True)
                                                                                            (((0 : Int) ≤ (16 : Int) ∧
                                                                                                (16 : Int) <
                                                                                                  (↑(build4 x_2.fst
                                                                                                          x_2.snd).length :
                                                                                                    Int)) ∧
                                                                                              ifB
                                                                                                (decide
                                                                                                  ((build4 x_2.fst
                                                                                                          x_2.snd).getD
                                                                                                      (16 : Nat)
                                                                                                      (0 : Int) =
                                                                                                    (0 : Int)))
                                                                                                (∃ (y : Unit),
                                                                                                  True ∧
                                                                                                    decide
                                                                                                          ((parse4
                                                                                                                x_3).snd =
                                                                                                            (6 : Int)) =
                                                                                                        true ∧
                                                                                                      True)
                                                                                                (ifB
                                                                                                  (decide
                                                                                                    ((parse4 x_3).snd =
                                                                                                      (0 : Int)))
                                                                                                  (ifB
                                                                                                    (decide
                                                                                                      ((parse4
                                                                                                              x_3).fst.fst =
                                                                                                        (20 : Int)))
                                                                                                    (ifB
                                                                                                      (decide
                                                                                                        ((parse4
                                                                                                                  x_3).fst.snd.fst =
                                                                                                          (↑(build4
                                                                                                                  x_2.fst
                                                                                                                  x_2.snd).length :
                                                                                                            Int)))
                                                                                                      (ifB
                                                                                                        (decide
                                                                                                          ((parse4
                                                                                                                      x_3).fst.snd.snd.fst =
                                                                                                            bits BinOp.and
                                                                                                              IntKind.i64
                                                                                                              x.fst.snd.snd.fst
                                                                                                              (255 :
                                                                                                                Int)))
                                                                                                        (ifB
                                                                                                          (decide
                                                                                                            ((parse4
                                                                                                                          x_3).fst.snd.snd.snd.fst =
                                                                                                              bits
                                                                                                                BinOp.and
                                                                                                                IntKind.i64
                                                                                                                x.fst.snd.snd.snd.fst
                                                                                                                (255 :
                                                                                                                  Int)))
                                                                                                          (ifB
                                                                                                            x.fst.snd.snd.snd.snd.snd.snd.fst
                                                                                                            (ifB
                                                                                                              x.fst.snd.snd.snd.snd.snd.snd.snd.snd.snd
                                                                                                              (∃ (y :
                                                                                                                Unit),
                                                                                                                True ∧
                                                                                                                  true =
                                                                                                                      true ∧
                                                                                                                    True)
                                                                                                              (∃ (x_5 :
                                                                                                                Int ×
                                                                                                                  Int ×
                                                                                                                    Bool),
                                                                                                                (parse4
                                                                                                                                        x_3).fst.snd.snd.snd.snd.snd.snd.snd.fst =
                                                                                                                    x_5.fst ∧
                                                                                                                  (parse4
                                                                                                                                            x_3).fst.snd.snd.snd.snd.snd.snd.snd.snd.fst =
                                                                                                                      x_5.snd.fst ∧
                                                                                                                    (parse4
                                                                                                                                              x_3).fst.snd.snd.snd.snd.snd.snd.snd.snd.snd =
                                                                                                                        x_5.snd.snd ∧
                                                                                                                      (((0 :
                                                                                                                                Int) ≤
                                                                                                                              x_5.fst ∧
                                                                                                                            x_5.fst <
                                                                                                                              (18446744073709551616 :
                                                                                                                                Int)) ∧
                                                                                                                          (0 :
                                                                                                                                Int) ≤
                                                                                                                              x_5.snd.fst ∧
                                                                                                                            x_5.snd.fst <
                                                                                                                              (18446744073709551616 :
                                                                                                                                Int)) ∧
                                                                                                                        ∀
                                                                                                                          (y :
                                                                                                                            Unit),
                                                                                                                          True →
                                                                                                                            ∃
                                                                                                                              (x_6
                                                                                                                              :
                                                                                                                              Int ×
                                                                                                                                Int ×
                                                                                                                                  Bool),
                                                                                                                              x.fst.snd.snd.snd.snd.snd.snd.snd.fst =
                                                                                                                                  x_6.fst ∧
                                                                                                                                x.fst.snd.snd.snd.snd.snd.snd.snd.snd.fst =
                                                                                                                                    x_6.snd.fst ∧
                                                                                                                                  x.fst.snd.snd.snd.snd.snd.snd.snd.snd.snd =
                                                                                                                                      x_6.snd.snd ∧
                                                                                                                                    (((0 :
                                                                                                                                              Int) ≤
                                                                                                                                            x_6.fst ∧
                                                                                                                                          x_6.fst <
                                                                                                                                            (18446744073709551616 :
                                                                                                                                              Int)) ∧
                                                                                                                                        (0 :
                                                                                                                                              Int) ≤
                                                                                                                                            x_6.snd.fst ∧
                                                                                                                                          x_6.snd.fst <
                                                                                                                                            (18446744073709551616 :
                                                                                                                                              Int)) ∧
                                                                                                                                      ∀
                                                                                                                                        (y :
                                                                                                                                          Unit),
                                                                                                                                        True →
                                                                                                                                          ∃
                                                                                                                                            (y
                                                                                                                                            :
                                                                                                                                            Unit),
                                                                                                                                            True ∧
                                                                                                                                              decide
                                                                                                                                                    (bytesA
                                                                                                                                                        x_5 =
                                                                                                                                                      bytesA
                                                                                                                                                        x_6) =
                                                                                                                                                  true ∧
                                                                                                                                                True))
                                                                                                            (∃ (x_5 :
                                                                                                              Int ×
                                                                                                                Int ×
                                                                                                                  Bool),
                                                                                                              (parse4
                                                                                                                                x_3).fst.snd.snd.snd.snd.fst =
                                                                                                                  x_5.fst ∧
                                                                                                                (parse4
                                                                                                                                    x_3).fst.snd.snd.snd.snd.snd.fst =
                                                                                                                    x_5.snd.fst ∧
                                                                                                                  (parse4
                                                                                                                                        x_3).fst.snd.snd.snd.snd.snd.snd.fst =
                                                                                                                      x_5.snd.snd ∧
                                                                                                                    (((0 :
                                                                                                                              Int) ≤
                                                                                                                            x_5.fst ∧
                                                                                                                          x_5.fst <
                                                                                                                            (18446744073709551616 :
                                                                                                                              Int)) ∧
                                                                                                                        (0 :
                                                                                                                              Int) ≤
                                                                                                                            x_5.snd.fst ∧
                                                                                                                          x_5.snd.fst <
                                                                                                                            (18446744073709551616 :
                                                                                                                              Int)) ∧
                                                                                                                      ∀
                                                                                                                        (y :
                                                                                                                          Unit),
                                                                                                                        True →
                                                                                                                          ∃
                                                                                                                            (x_6
                                                                                                                            :
                                                                                                                            Int ×
                                                                                                                              Int ×
                                                                                                                                Bool),
                                                                                                                            x.fst.snd.snd.snd.snd.fst =
                                                                                                                                x_6.fst ∧
                                                                                                                              x.fst.snd.snd.snd.snd.snd.fst =
                                                                                                                                  x_6.snd.fst ∧
                                                                                                                                x.fst.snd.snd.snd.snd.snd.snd.fst =
                                                                                                                                    x_6.snd.snd ∧
                                                                                                                                  (((0 :
                                                                                                                                            Int) ≤
                                                                                                                                          x_6.fst ∧
                                                                                                                                        x_6.fst <
                                                                                                                                          (18446744073709551616 :
                                                                                                                                            Int)) ∧
                                                                                                                                      (0 :
                                                                                                                                            Int) ≤
                                                                                                                                          x_6.snd.fst ∧
                                                                                                                                        x_6.snd.fst <
                                                                                                                                          (18446744073709551616 :
                                                                                                                                            Int)) ∧
                                                                                                                                    ∀
                                                                                                                                      (y :
                                                                                                                                        Unit),
                                                                                                                                      True →
                                                                                                                                        ifB
                                                                                                                                          (decide
                                                                                                                                            (bytesA
                                                                                                                                                x_5 =
                                                                                                                                              bytesA
                                                                                                                                                x_6))
                                                                                                                                          (ifB
                                                                                                                                            x.fst.snd.snd.snd.snd.snd.snd.snd.snd.snd
                                                                                                                                            (∃
                                                                                                                                              (y
                                                                                                                                              :
                                                                                                                                              Unit),
                                                                                                                                              True ∧
                                                                                                                                                true =
                                                                                                                                                    true ∧
                                                                                                                                                  True)
                                                                                                                                            (∃
                                                                                                                                              (x_7
                                                                                                                                              :
                                                                                                                                              Int ×
                                                                                                                                                Int ×
                                                                                                                                                  Bool),
                                                                                                                                              (parse4
                                                                                                                                                                      x_3).fst.snd.snd.snd.snd.snd.snd.snd.fst =
                                                                                                                                                  x_7.fst ∧
                                                                                                                                                (parse4
                                                                                                                                                                          x_3).fst.snd.snd.snd.snd.snd.snd.snd.snd.fst =
                                                                                                                                                    x_7.snd.fst ∧
                                                                                                                                                  (parse4
                                                                                                                                                                            x_3).fst.snd.snd.snd.snd.snd.snd.snd.snd.snd =
                                                                                                                                                      x_7.snd.snd ∧
                                                                                                                                                    (((0 :
                                                                                                                                                              Int) ≤
                                                                                                                                                            x_7.fst ∧
                                                                                                                                                          x_7.fst <
                                                                                                                                                            (18446744073709551616 :
                                                                                                                                                              Int)) ∧
                                                                                                                                                        (0 :
                                                                                                                                                              Int) ≤
                                                                                                                                                            x_7.snd.fst ∧
                                                                                                                                                          x_7.snd.fst <
                                                                                                                                                            (18446744073709551616 :
                                                                                                                                                              Int)) ∧
                                                                                                                                                      ∀
                                                                                                                                                        (y :
                                                                                                                                                          Unit),
                                                                                                                                                        True →
                                                                                                                                                          ∃
                                                                                                                                                            (x_8
                                                                                                                                                            :
                                                                                                                                                            Int ×
                                                                                                                                                              Int ×
                                                                                                                                                                Bool),
                                                                                                                                                            x.fst.snd.snd.snd.snd.snd.snd.snd.fst =
                                                                                                                                                                x_8.fst ∧
                                                                                                                                                              x.fst.snd.snd.snd.snd.snd.snd.snd.snd.fst =
                                                                                                                                                                  x_8.snd.fst ∧
                                                                                                                                                                x.fst.snd.snd.snd.snd.snd.snd.snd.snd.snd =
                                                                                                                                                                    x_8.snd.snd ∧
                                                                                                                                                                  (((0 :
                                                                                                                                                                            Int) ≤
                                                                                                                                                                          x_8.fst ∧
                                                                                                                                                                        x_8.fst <
                                                                                                                                                                          (18446744073709551616 :
                                                                                                                                                                            Int)) ∧
                                                                                                                                                                      (0 :
                                                                                                                                                                            Int) ≤
                                                                                                                                                                          x_8.snd.fst ∧
                                                                                                                                                                        x_8.snd.fst <
                                                                                                                                                                          (18446744073709551616 :
                                                                                                                                                                            Int)) ∧
                                                                                                                                                                    ∀
                                                                                                                                                                      (y :
                                                                                                                                                                        Unit),
                                                                                                                                                                      True →
                                                                                                                                                                        ∃
                                                                                                                                                                          (y
                                                                                                                                                                          :
                                                                                                                                                                          Unit),
                                                                                                                                                                          True ∧
                                                                                                                                                                            decide
                                                                                                                                                                                  (bytesA
                                                                                                                                                                                      x_7 =
                                                                                                                                                                                    bytesA
                                                                                                                                                                                      x_8) =
                                                                                                                                                                                true ∧
                                                                                                                                                                              True))
                                                                                                                                          (∃
                                                                                                                                            (y
                                                                                                                                            :
                                                                                                                                            Unit),
                                                                                                                                            True ∧
                                                                                                                                              false =
                                                                                                                                                  true ∧
                                                                                                                                                True)))
                                                                                                          (∃ (y : Unit),
                                                                                                            True ∧
                                                                                                              false =
                                                                                                                  true ∧
                                                                                                                True))
                                                                                                        (∃ (y : Unit),
                                                                                                          True ∧
                                                                                                            false = true ∧
                                                                                                              True))
                                                                                                      (∃ (y : Unit),
                                                                                                        True ∧
                                                                                                          false = true ∧
                                                                                                            True))
                                                                                                    (∃ (y : Unit),
                                                                                                      True ∧
                                                                                                        false = true ∧
                                                                                                          True))
                                                                                                  (∃ (y : Unit),
                                                                                                    True ∧
                                                                                                      false = true ∧
                                                                                                        True))))))))
theorem o_back4 : owes Try.prog (tab L20) LqL20 1 16 Try.f16 Back4L = T_back4 := by kernel_rfl
end Sp
