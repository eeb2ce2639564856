/- Printed by sx.py, a program of this work: what the walks of some functions owe. -/
import Derived.Test.YtcilcmbailoeaaaSpL04
import Derived.ProofKit
set_option linter.all false
set_option maxRecDepth 100000
namespace Sp
open Go Go.Proofs Sx
def T_awake : Prop :=
  ∀ (x : Unit),
    True →
      ∃ (x : List Int),
        (4 : Nat) = x.length ∧
          [(10 : Int), (0 : Int), (0 : Int), (0 : Int)] = x ∧
            (∀ (x_1 : Int), List.Mem x_1 x → (0 : Int) ≤ x_1 ∧ x_1 ≤ (255 : Int)) ∧
              ∀ (y : Unit),
                True →
                  ∃ (x_1 : Ad × Int),
                    (fromE x).fst.fst = x_1.fst.fst ∧
                      (fromE x).fst.snd.fst = x_1.fst.snd.fst ∧
                        (fromE x).fst.snd.snd = x_1.fst.snd.snd ∧
                          (8 : Int) = x_1.snd ∧
                            (((0 : Int) ≤ x_1.fst.fst ∧ x_1.fst.fst < (18446744073709551616 : Int)) ∧
                                (0 : Int) ≤ x_1.fst.snd.fst ∧ x_1.fst.snd.fst < (18446744073709551616 : Int)) ∧
                              ∀ (y : Unit),
                                True →
                                  ∃ (x_2 : List Int × Pf),
                                    (0 : Nat) = x_2.fst.length ∧
                                      (ofPf x_1.fst x_1.snd).fst = x_2.snd.fst ∧
                                        (ofPf x_1.fst x_1.snd).snd.fst = x_2.snd.snd.fst ∧
                                          (ofPf x_1.fst x_1.snd).snd.snd.fst = x_2.snd.snd.snd.fst ∧
                                            (ofPf x_1.fst x_1.snd).snd.snd.snd = x_2.snd.snd.snd.snd ∧
                                              [] = x_2.fst ∧
                                                (x_2.fst.length ≤ most ∧
                                                    ((0 : Int) ≤ (pA x_2.snd).fst ∧
                                                        (pA x_2.snd).fst < (18446744073709551616 : Int)) ∧
                                                      (0 : Int) ≤ (pA x_2.snd).snd.fst ∧
                                                        (pA x_2.snd).snd.fst < (18446744073709551616 : Int)) ∧
                                                  ∀ (y : Unit),
                                                    True →
                                                      ∃ (x_3 : List Int),
                                                        (x_2.fst ++ putP x_2.snd).length = x_3.length ∧
                                                          x_2.fst ++ putP x_2.snd = x_3 ∧
                                                            ((∀ (x : Int),
                                                                  List.Mem x x_3 → (0 : Int) ≤ x ∧ x ≤ (255 : Int)) ∧
                                                                x_3.length ≤ most) ∧
                                                              ∀ (y : Unit),
                                                                True →
                                                                  ifB
                                                                    (decide
                                                                      (x_2.fst ++ putP x_2.snd =
                                                                        [(4 : Int), (8 : Int), (10 : Int)]))
                                                                    (ifB (decide ((getP x_3).snd.fst = (3 : Int)))
                                                                      (ifB (decide ((getP x_3).snd.snd = (0 : Int)))
                                                                        (ifB
                                                                          (decide
                                                                            ((getP x_3).fst.snd.snd.snd = (8 : Int)))
                                                                          (∃ (y : Unit),
                                                                            True ∧
                                                                              (decide
                                                                                      ((getP x_3).fst.fst =
                                                                                        (fromE x).fst.fst) &&
                                                                                    (decide
                                                                                        ((getP x_3).fst.snd.fst =
                                                                                          (fromE x).fst.snd.fst) &&
                                                                                      decide
                                                                                        ((getP x_3).fst.snd.snd.fst =
                                                                                          (fromE x).fst.snd.snd))) =
                                                                                  true ∧
                                                                                True)
                                                                          (∃ (y : Unit), True ∧ false = true ∧ True))
                                                                        (∃ (y : Unit), True ∧ false = true ∧ True))
                                                                      (∃ (y : Unit), True ∧ false = true ∧ True))
                                                                    (∃ (y : Unit), True ∧ false = true ∧ True)
theorem o_awake : owes Try.prog (tab R6) LqL 0 42 Try.f42 AwakeS = T_awake := by kernel_rfl
def T_back : Prop :=
  ∀ (x : Rt × List Int),
    ((((0 : Int) ≤ (pA (rP x.fst)).fst ∧ (pA (rP x.fst)).fst < (18446744073709551616 : Int)) ∧
          (0 : Int) ≤ (pA (rP x.fst)).snd.fst ∧ (pA (rP x.fst)).snd.fst < (18446744073709551616 : Int)) ∧
        ∀ (x_1 : Int), List.Mem x_1 x.snd → (0 : Int) ≤ x_1 ∧ x_1 ≤ (255 : Int)) →
      ∃ (x_1 : Unit),
        True ∧
          ∀ (y : Unit),
            True →
              ifB (decide ((500 : Int) < (↑x.snd.length : Int)))
                (∃ (x_2 : Int × Int × Bool × Int × Int),
                  x.fst.fst = x_2.fst ∧
                    x.fst.snd.fst = x_2.snd.fst ∧
                      x.fst.snd.snd.fst = x_2.snd.snd.fst ∧
                        x.fst.snd.snd.snd.fst = x_2.snd.snd.snd.fst ∧
                          x.fst.snd.snd.snd.snd = x_2.snd.snd.snd.snd ∧
                            (((0 : Int) ≤ (pA (rP x_2)).fst ∧ (pA (rP x_2)).fst < (18446744073709551616 : Int)) ∧
                                (0 : Int) ≤ (pA (rP x_2)).snd.fst ∧
                                  (pA (rP x_2)).snd.fst < (18446744073709551616 : Int)) ∧
                              ∀ (y : Unit),
                                True →
                                  ifB (goodR x_2) (∃ (y : Unit), True ∧ true = true ∧ True)
                                    (∃ (x_3 : List Int × Rt),
                                      (0 : Nat) = x_3.fst.length ∧
                                        x.fst.fst = x_3.snd.fst ∧
                                          x.fst.snd.fst = x_3.snd.snd.fst ∧
                                            x.fst.snd.snd.fst = x_3.snd.snd.snd.fst ∧
                                              x.fst.snd.snd.snd.fst = x_3.snd.snd.snd.snd.fst ∧
                                                x.fst.snd.snd.snd.snd = x_3.snd.snd.snd.snd.snd ∧
                                                  [] = x_3.fst ∧
                                                    (x_3.fst.length ≤ most ∧
                                                        ((0 : Int) ≤ (pA (rP x_3.snd)).fst ∧
                                                            (pA (rP x_3.snd)).fst < (18446744073709551616 : Int)) ∧
                                                          (0 : Int) ≤ (pA (rP x_3.snd)).snd.fst ∧
                                                            (pA (rP x_3.snd)).snd.fst < (18446744073709551616 : Int)) ∧
                                                      ∀ (y : Unit),
                                                        True →
                                                          ∃ (y : Unit),
                                                            True ∧
                                                              decide
                                                                    ((↑(x_3.fst ++ putR x_3.snd).length : Int) =
                                                                      (0 : Int)) =
                                                                  true ∧
                                                                True))
                (∃ (x_2 : Int × Int × Bool × Int × Int),
                  x.fst.fst = x_2.fst ∧
                    x.fst.snd.fst = x_2.snd.fst ∧
                      x.fst.snd.snd.fst = x_2.snd.snd.fst ∧
                        x.fst.snd.snd.snd.fst = x_2.snd.snd.snd.fst ∧
                          x.fst.snd.snd.snd.snd = x_2.snd.snd.snd.snd ∧
                            (((0 : Int) ≤ (pA (rP x_2)).fst ∧ (pA (rP x_2)).fst < (18446744073709551616 : Int)) ∧
                                (0 : Int) ≤ (pA (rP x_2)).snd.fst ∧
                                  (pA (rP x_2)).snd.fst < (18446744073709551616 : Int)) ∧
                              ∀ (y : Unit),
                                True →
                                  ifB (!goodR x_2)
                                    (∃ (x_3 : Int × Int × Bool × Int × Int),
                                      x.fst.fst = x_3.fst ∧
                                        x.fst.snd.fst = x_3.snd.fst ∧
                                          x.fst.snd.snd.fst = x_3.snd.snd.fst ∧
                                            x.fst.snd.snd.snd.fst = x_3.snd.snd.snd.fst ∧
                                              x.fst.snd.snd.snd.snd = x_3.snd.snd.snd.snd ∧
                                                (((0 : Int) ≤ (pA (rP x_3)).fst ∧
                                                      (pA (rP x_3)).fst < (18446744073709551616 : Int)) ∧
                                                    (0 : Int) ≤ (pA (rP x_3)).snd.fst ∧
                                                      (pA (rP x_3)).snd.fst < (18446744073709551616 : Int)) ∧
                                                  ∀ (y : Unit),
                                                    True →
                                                      ifB (goodR x_3) (∃ (y : Unit), True ∧ true = true ∧ True)
                                                        (∃ (x_4 : List Int × Rt),
                                                          (0 : Nat) = x_4.fst.length ∧
                                                            x.fst.fst = x_4.snd.fst ∧
                                                              x.fst.snd.fst = x_4.snd.snd.fst ∧
                                                                x.fst.snd.snd.fst = x_4.snd.snd.snd.fst ∧
                                                                  x.fst.snd.snd.snd.fst = x_4.snd.snd.snd.snd.fst ∧
                                                                    x.fst.snd.snd.snd.snd = x_4.snd.snd.snd.snd.snd ∧
                                                                      [] = x_4.fst ∧
                                                                        (x_4.fst.length ≤ most ∧
                                                                            ((0 : Int) ≤ (pA (rP x_4.snd)).fst ∧
                                                                                (pA (rP x_4.snd)).fst <
                                                                                  (18446744073709551616 : Int)) ∧
                                                                              (0 : Int) ≤ (pA (rP x_4.snd)).snd.fst ∧
                                                                                (pA (rP x_4.snd)).snd.fst <
                                                                                  (18446744073709551616 : Int)) ∧
                                                                          ∀ (y : Unit),
                                                                            True →
                                                                              ∃ (y : Unit),
                                                                                True ∧
                                                                                  decide
                                                                                        ((↑(x_4.fst ++
                                                                                                  putR x_4.snd).length :
                                                                                            Int) =
                                                                                          (0 : Int)) =
                                                                                      true ∧
                                                                                    True))
                                    (∃ (x_3 : List Int × Rt),
                                      (0 : Nat) = x_3.fst.length ∧
                                        x.fst.fst = x_3.snd.fst ∧
                                          x.fst.snd.fst = x_3.snd.snd.fst ∧
                                            x.fst.snd.snd.fst = x_3.snd.snd.snd.fst ∧
                                              x.fst.snd.snd.snd.fst = x_3.snd.snd.snd.snd.fst ∧
                                                x.fst.snd.snd.snd.snd = x_3.snd.snd.snd.snd.snd ∧
                                                  [] = x_3.fst ∧
                                                    (x_3.fst.length ≤ most ∧
                                                        ((0 : Int) ≤ (pA (rP x_3.snd)).fst ∧
                                                            (pA (rP x_3.snd)).fst < (18446744073709551616 : Int)) ∧
                                                          (0 : Int) ≤ (pA (rP x_3.snd)).snd.fst ∧
                                                            (pA (rP x_3.snd)).snd.fst < (18446744073709551616 : Int)) ∧
                                                      ∀ (y : Unit),
                                                        True →
                                                          ∃ (x_4 : List Int × Rt),
                                                            x.snd.length = x_4.fst.length ∧
                                                              x.fst.fst = x_4.snd.fst ∧
                                                                x.fst.snd.fst = x_4.snd.snd.fst ∧
                                                                  x.fst.snd.snd.fst = x_4.snd.snd.snd.fst ∧
                                                                    x.fst.snd.snd.snd.fst = x_4.snd.snd.snd.snd.fst ∧
                                                                      x.fst.snd.snd.snd.snd = x_4.snd.snd.snd.snd.snd ∧
                                                                        x.snd = x_4.fst ∧
                                                                          (x_4.fst.length ≤ most ∧
                                                                              ((0 : Int) ≤ (pA (rP x_4.snd)).fst ∧
                                                                                  (pA (rP x_4.snd)).fst <
                                                                                    (18446744073709551616 : Int)) ∧
                                                                                (0 : Int) ≤ (pA (rP x_4.snd)).snd.fst ∧
                                                                                  (pA (rP x_4.snd)).snd.fst <
                                                                                    (18446744073709551616 : Int)) ∧
                                                                            ∀ (y : Unit),
                                                                              True →
                                                                                (((0 : Nat) +
                                                                                          (x_3.fst ++
                                                                                              putR x_3.snd).length) *
                                                                                        (1 : Nat) ≤
                                                                                      (140737488355328 : Nat) ∧
                                                                                    (0 : Nat) +
                                                                                        (x_3.fst ++ putR x_3.snd).length ≤
                                                                                      (140737488355328 : Nat)) ∧
                                                                                  (((0 : Nat) +
                                                                                              (x_3.fst ++
                                                                                                  putR x_3.snd).length +
                                                                                            x.snd.length) *
                                                                                          (1 : Nat) ≤
                                                                                        (140737488355328 : Nat) ∧
                                                                                      (0 : Nat) +
                                                                                            (x_3.fst ++
                                                                                                putR x_3.snd).length +
                                                                                          x.snd.length ≤
                                                                                        (140737488355328 : Nat)) ∧
                                                                                    ∃ (x_5 : List Int),
                                                                                      (0 : Nat) +
                                                                                              (x_3.fst ++
                                                                                                  putR x_3.snd).length +
                                                                                            x.snd.length =
                                                                                          x_5.length ∧
                                                                                        [] ++ (x_3.fst ++ putR x_3.snd) ++
                                                                                              x.snd =
                                                                                            x_5 ∧
                                                                                          ((∀ (x : Int),
                                                                                                List.Mem x x_5 →
                                                                                                  (0 : Int) ≤ x ∧
                                                                                                    x ≤ (255 : Int)) ∧
                                                                                              x_5.length ≤ most) ∧
                                                                                            ∀ (y : Unit),
                                                                                              True →
                                                                                                ∃ (x_6 : List Int),
                                                                                                  (0 : Nat) +
                                                                                                          (x_3.fst ++
                                                                                                              putR
                                                                                                                x_3.snd).length +
                                                                                                        x.snd.length =
                                                                                                      x_6.length ∧
                                                                                                    [] ++
                                                                                                            (x_3.fst ++
                                                                                                              putR
                                                                                                                x_3.snd) ++
                                                                                                          x.snd =
                                                                                                        x_6 ∧
                                                                                                      ((∀ (x : Int),
                                                                                                            List.Mem x
                                                                                                                x_6 →
                                                                                                              (0 : Int) ≤
                                                                                                                  x ∧
                                                                                                                x ≤
                                                                                                                  (255 :
                                                                                                                    Int)) ∧
                                                                                                          x_6.length ≤
                                                                                                            most) ∧
                                                                                                        ∀ (y : Unit),
                                                                                                          True →
                                                                                                            ifB
                                                                                                              (!(decide
                                                                                                                    ((getR
                                                                                                                            x_5).fst.fst =
                                                                                                                      x.fst.fst) &&
                                                                                                                  (decide
                                                                                                                      ((getR
                                                                                                                                x_5).fst.snd.fst =
                                                                                                                        x.fst.snd.fst) &&
                                                                                                                    (decide
                                                                                                                        ((getR
                                                                                                                                    x_5).fst.snd.snd.fst =
                                                                                                                          x.fst.snd.snd.fst) &&
                                                                                                                      (decide
                                                                                                                          ((getR
                                                                                                                                        x_5).fst.snd.snd.snd.fst =
                                                                                                                            x.fst.snd.snd.snd.fst) &&
                                                                                                                        decide
                                                                                                                          ((getR
                                                                                                                                        x_5).fst.snd.snd.snd.snd =
                                                                                                                            x.fst.snd.snd.snd.snd))))))
                                                                                                              (∃ (y :
                                                                                                                Unit),
                                                                                                                True ∧
                                                                                                                  false =
                                                                                                                      true ∧
                                                                                                                    True)
                                                                                                              (ifB
                                                                                                                (!decide
                                                                                                                    ((getR
                                                                                                                            x_5).snd.fst =
                                                                                                                      (↑(x_3.fst ++
                                                                                                                              putR
                                                                                                                                x_3.snd).length :
                                                                                                                        Int)))
                                                                                                                (∃ (y :
                                                                                                                  Unit),
                                                                                                                  True ∧
                                                                                                                    false =
                                                                                                                        true ∧
                                                                                                                      True)
                                                                                                                (ifB
                                                                                                                  (!decide
                                                                                                                      ((getR
                                                                                                                              x_5).snd.snd =
                                                                                                                        (0 :
                                                                                                                          Int)))
                                                                                                                  (∃ (y :
                                                                                                                    Unit),
                                                                                                                    True ∧
                                                                                                                      false =
                                                                                                                          true ∧
                                                                                                                        True)
                                                                                                                  (ifB
                                                                                                                    (!(decide
                                                                                                                          ((getP
                                                                                                                                  x_6).fst.fst =
                                                                                                                            x.fst.fst) &&
                                                                                                                        (decide
                                                                                                                            ((getP
                                                                                                                                      x_6).fst.snd.fst =
                                                                                                                              x.fst.snd.fst) &&
                                                                                                                          (decide
                                                                                                                              ((getP
                                                                                                                                          x_6).fst.snd.snd.fst =
                                                                                                                                x.fst.snd.snd.fst) &&
                                                                                                                            decide
                                                                                                                              ((getP
                                                                                                                                          x_6).fst.snd.snd.snd =
                                                                                                                                x.fst.snd.snd.snd.fst)))))
                                                                                                                    (∃ (y
                                                                                                                      :
                                                                                                                      Unit),
                                                                                                                      True ∧
                                                                                                                        false =
                                                                                                                            true ∧
                                                                                                                          True)
                                                                                                                    (ifB
                                                                                                                      (!decide
                                                                                                                          ((getP
                                                                                                                                  x_6).snd.snd =
                                                                                                                            (0 :
                                                                                                                              Int)))
                                                                                                                      (∃
                                                                                                                        (y
                                                                                                                        :
                                                                                                                        Unit),
                                                                                                                        True ∧
                                                                                                                          false =
                                                                                                                              true ∧
                                                                                                                            True)
                                                                                                                      (((-9223372036854775808 :
                                                                                                                              Int) ≤
                                                                                                                            (getR
                                                                                                                                    x_5).snd.fst -
                                                                                                                              (2 :
                                                                                                                                Int) ∧
                                                                                                                          (getR
                                                                                                                                    x_5).snd.fst -
                                                                                                                              (2 :
                                                                                                                                Int) ≤
                                                                                                                            (9223372036854775807 :
                                                                                                                              Int)) ∧
                                                                                                                        ifB
                                                                                                                          (!decide
                                                                                                                              ((getP
                                                                                                                                      x_6).snd.fst =
                                                                                                                                (getR
                                                                                                                                        x_5).snd.fst -
                                                                                                                                  (2 :
                                                                                                                                    Int)))
                                                                                                                          (∃
                                                                                                                            (y
                                                                                                                            :
                                                                                                                            Unit),
                                                                                                                            True ∧
                                                                                                                              false =
                                                                                                                                  true ∧
                                                                                                                                True)
                                                                                                                          (ifB
                                                                                                                            (decide
                                                                                                                              ((↑(x_3.fst ++
                                                                                                                                        putR
                                                                                                                                          x_3.snd).length :
                                                                                                                                  Int) <
                                                                                                                                (4 :
                                                                                                                                  Int)))
                                                                                                                            (∃
                                                                                                                              (y
                                                                                                                              :
                                                                                                                              Unit),
                                                                                                                              True ∧
                                                                                                                                false =
                                                                                                                                    true ∧
                                                                                                                                  True)
                                                                                                                            (((-9223372036854775808 :
                                                                                                                                    Int) ≤
                                                                                                                                  (↑(x_3.fst ++
                                                                                                                                            putR
                                                                                                                                              x_3.snd).length :
                                                                                                                                      Int) -
                                                                                                                                    (1 :
                                                                                                                                      Int) ∧
                                                                                                                                (↑(x_3.fst ++
                                                                                                                                            putR
                                                                                                                                              x_3.snd).length :
                                                                                                                                      Int) -
                                                                                                                                    (1 :
                                                                                                                                      Int) ≤
                                                                                                                                  (9223372036854775807 :
                                                                                                                                    Int)) ∧
                                                                                                                              ((0 :
                                                                                                                                      Int) ≤
                                                                                                                                    (↑(x_3.fst ++
                                                                                                                                              putR
                                                                                                                                                x_3.snd).length :
                                                                                                                                        Int) -
                                                                                                                                      (1 :
                                                                                                                                        Int) ∧
                                                                                                                                  (↑(x_3.fst ++
                                                                                                                                              putR
                                                                                                                                                x_3.snd).length :
                                                                                                                                        Int) -
                                                                                                                                      (1 :
                                                                                                                                        Int) ≤
                                                                                                                                    (↑(x_3.fst ++
                                                                                                                                            putR
                                                                                                                                              x_3.snd).length :
                                                                                                                                      Int)) ∧
                                                                                                                                ∃
                                                                                                                                  (x_7
                                                                                                                                  :
                                                                                                                                  List
                                                                                                                                    Int),
                                                                                                                                  ((↑(x_3.fst ++
                                                                                                                                                    putR
                                                                                                                                                      x_3.snd).length :
                                                                                                                                              Int) -
                                                                                                                                            (1 :
                                                                                                                                              Int)).toNat -
                                                                                                                                        (0 :
                                                                                                                                          Nat) =
                                                                                                                                      x_7.length ∧
                                                                                                                                    List.drop
                                                                                                                                          (0 :
                                                                                                                                            Nat)
                                                                                                                                          (List.take
                                                                                                                                            ((↑(x_3.fst ++
                                                                                                                                                        putR
                                                                                                                                                          x_3.snd).length :
                                                                                                                                                  Int) -
                                                                                                                                                (1 :
                                                                                                                                                  Int)).toNat
                                                                                                                                            (x_3.fst ++
                                                                                                                                              putR
                                                                                                                                                x_3.snd)) =
                                                                                                                                        x_7 ∧
                                                                                                                                      ((∀
                                                                                                                                            (x :
                                                                                                                                              Int),
                                                                                                                                            List.Mem
                                                                                                                                                x
                                                                                                                                                x_7 →
                                                                                                                                              (0 :
                                                                                                                                                    Int) ≤
                                                                                                                                                  x ∧
                                                                                                                                                x ≤
                                                                                                                                                  (255 :
                                                                                                                                                    Int)) ∧
                                                                                                                                          x_7.length ≤
                                                                                                                                            most) ∧
                                                                                                                                        ∀
                                                                                                                                          (y :
                                                                                                                                            Unit),
                                                                                                                                          True →
                                                                                                                                            ((-9223372036854775808 :
                                                                                                                                                    Int) ≤
                                                                                                                                                  (getP
                                                                                                                                                          x_6).snd.fst -
                                                                                                                                                    (1 :
                                                                                                                                                      Int) ∧
                                                                                                                                                (getP
                                                                                                                                                          x_6).snd.fst -
                                                                                                                                                    (1 :
                                                                                                                                                      Int) ≤
                                                                                                                                                  (9223372036854775807 :
                                                                                                                                                    Int)) ∧
                                                                                                                                              ((0 :
                                                                                                                                                      Int) ≤
                                                                                                                                                    (getP
                                                                                                                                                            x_6).snd.fst -
                                                                                                                                                      (1 :
                                                                                                                                                        Int) ∧
                                                                                                                                                  (getP
                                                                                                                                                            x_6).snd.fst -
                                                                                                                                                      (1 :
                                                                                                                                                        Int) ≤
                                                                                                                                                    (↑(x_3.fst ++
                                                                                                                                                            putR
                                                                                                                                                              x_3.snd).length :
                                                                                                                                                      Int)) ∧
                                                                                                                                                ∃
                                                                                                                                                  (x_8
                                                                                                                                                  :
                                                                                                                                                  List
                                                                                                                                                    Int),
                                                                                                                                                  ((getP
                                                                                                                                                                  x_6).snd.fst -
                                                                                                                                                            (1 :
                                                                                                                                                              Int)).toNat -
                                                                                                                                                        (0 :
                                                                                                                                                          Nat) =
                                                                                                                                                      x_8.length ∧
                                                                                                                                                    List.drop
                                                                                                                                                          (0 :
                                                                                                                                                            Nat)
                                                                                                                                                          (List.take
                                                                                                                                                            ((getP
                                                                                                                                                                      x_6).snd.fst -
                                                                                                                                                                (1 :
                                                                                                                                                                  Int)).toNat
                                                                                                                                                            (x_3.fst ++
                                                                                                                                                              putR
                                                                                                                                                                x_3.snd)) =
                                                                                                                                                        x_8 ∧
                                                                                                                                                      ((∀
                                                                                                                                                            (x :
                                                                                                                                                              Int),
                                                                                                                                                            List.Mem
                                                                                                                                                                x
                                                                                                                                                                x_8 →
                                                                                                                                                              (0 :
                                                                                                                                                                    Int) ≤
                                                                                                                                                                  x ∧
                                                                                                                                                                x ≤
                                                                                                                                                                  (255 :
                                                                                                                                                                    Int)) ∧
                                                                                                                                                          x_8.length ≤
                                                                                                                                                            most) ∧
                                                                                                                                                        ∀
                                                                                                                                                          (y :
                                                                                                                                                            Unit),
                                                                                                                                                          True →
                                                                                                                                                            ifB
                                                                                                                                                              (decide
                                                                                                                                                                ((getR
                                                                                                                                                                        x_7).snd.snd =
                                                                                                                                                                  (6 :
                                                                                                                                                                    Int)))
                                                                                                                                                              (ifB
                                                                                                                                                                (decide
                                                                                                                                                                  ((getP
                                                                                                                                                                          x_8).snd.snd =
                                                                                                                                                                    (6 :
                                                                                                                                                                      Int)))
                                                                                                                                                                (x.snd.length +
                                                                                                                                                                      (x_3.fst ++
                                                                                                                                                                          putR
                                                                                                                                                                            x_3.snd).length ≤
                                                                                                                                                                    (9223372036854775807 :
                                                                                                                                                                      Nat) ∧
                                                                                                                                                                  ∃
                                                                                                                                                                    (y
                                                                                                                                                                    :
                                                                                                                                                                    Unit),
                                                                                                                                                                    True ∧
                                                                                                                                                                      decide
                                                                                                                                                                            (x_4.fst ++
                                                                                                                                                                                putR
                                                                                                                                                                                  x_4.snd =
                                                                                                                                                                              x.snd ++
                                                                                                                                                                                (x_3.fst ++
                                                                                                                                                                                  putR
                                                                                                                                                                                    x_3.snd)) =
                                                                                                                                                                          true ∧
                                                                                                                                                                        True)
                                                                                                                                                                (∃
                                                                                                                                                                  (y
                                                                                                                                                                  :
                                                                                                                                                                  Unit),
                                                                                                                                                                  True ∧
                                                                                                                                                                    false =
                                                                                                                                                                        true ∧
                                                                                                                                                                      True))
                                                                                                                                                              (∃
                                                                                                                                                                (y
                                                                                                                                                                :
                                                                                                                                                                Unit),
                                                                                                                                                                True ∧
                                                                                                                                                                  false =
                                                                                                                                                                      true ∧
                                                                                                                                                                    True))))))))))
theorem o_back : owes Try.prog (tab L04) LqL 0 9 Try.f9 WireBackL = T_back := by kernel_rfl
def T_apart : Prop :=
  ∀ (x : Rt × Rt),
    (((0 : Int) ≤ (pA (rP x.fst)).fst ∧ (pA (rP x.fst)).fst < (18446744073709551616 : Int)) ∧
          (0 : Int) ≤ (pA (rP x.fst)).snd.fst ∧ (pA (rP x.fst)).snd.fst < (18446744073709551616 : Int)) ∧
        ((0 : Int) ≤ (pA (rP x.snd)).fst ∧ (pA (rP x.snd)).fst < (18446744073709551616 : Int)) ∧
          (0 : Int) ≤ (pA (rP x.snd)).snd.fst ∧ (pA (rP x.snd)).snd.fst < (18446744073709551616 : Int) →
      ∃ (x_1 : Unit),
        True ∧
          ∀ (y : Unit),
            True →
              ∃ (x_2 : Int × Int × Bool × Int × Int),
                x.fst.fst = x_2.fst ∧
                  x.fst.snd.fst = x_2.snd.fst ∧
                    x.fst.snd.snd.fst = x_2.snd.snd.fst ∧
                      x.fst.snd.snd.snd.fst = x_2.snd.snd.snd.fst ∧
                        x.fst.snd.snd.snd.snd = x_2.snd.snd.snd.snd ∧
                          (((0 : Int) ≤ (pA (rP x_2)).fst ∧ (pA (rP x_2)).fst < (18446744073709551616 : Int)) ∧
                              (0 : Int) ≤ (pA (rP x_2)).snd.fst ∧ (pA (rP x_2)).snd.fst < (18446744073709551616 : Int)) ∧
                            ∀ (y : Unit),
                              True →
                                ifB (!goodR x_2) (∃ (y : Unit), True ∧ true = true ∧ True)
                                  (∃ (x_3 : Int × Int × Bool × Int × Int),
                                    x.snd.fst = x_3.fst ∧
                                      x.snd.snd.fst = x_3.snd.fst ∧
                                        x.snd.snd.snd.fst = x_3.snd.snd.fst ∧
                                          x.snd.snd.snd.snd.fst = x_3.snd.snd.snd.fst ∧
                                            x.snd.snd.snd.snd.snd = x_3.snd.snd.snd.snd ∧
                                              (((0 : Int) ≤ (pA (rP x_3)).fst ∧
                                                    (pA (rP x_3)).fst < (18446744073709551616 : Int)) ∧
                                                  (0 : Int) ≤ (pA (rP x_3)).snd.fst ∧
                                                    (pA (rP x_3)).snd.fst < (18446744073709551616 : Int)) ∧
                                                ∀ (y : Unit),
                                                  True →
                                                    ifB (!goodR x_3) (∃ (y : Unit), True ∧ true = true ∧ True)
                                                      (∃ (x_4 : List Int × Rt),
                                                        (0 : Nat) = x_4.fst.length ∧
                                                          x.fst.fst = x_4.snd.fst ∧
                                                            x.fst.snd.fst = x_4.snd.snd.fst ∧
                                                              x.fst.snd.snd.fst = x_4.snd.snd.snd.fst ∧
                                                                x.fst.snd.snd.snd.fst = x_4.snd.snd.snd.snd.fst ∧
                                                                  x.fst.snd.snd.snd.snd = x_4.snd.snd.snd.snd.snd ∧
                                                                    [] = x_4.fst ∧
                                                                      (x_4.fst.length ≤ most ∧
                                                                          ((0 : Int) ≤ (pA (rP x_4.snd)).fst ∧
                                                                              (pA (rP x_4.snd)).fst <
                                                                                (18446744073709551616 : Int)) ∧
                                                                            (0 : Int) ≤ (pA (rP x_4.snd)).snd.fst ∧
                                                                              (pA (rP x_4.snd)).snd.fst <
                                                                                (18446744073709551616 : Int)) ∧
                                                                        ∀ (y : Unit),
                                                                          True →
                                                                            ∃ (x_5 : List Int × Rt),
                                                                              (0 : Nat) = x_5.fst.length ∧
                                                                                x.snd.fst = x_5.snd.fst ∧
                                                                                  x.snd.snd.fst = x_5.snd.snd.fst ∧
                                                                                    x.snd.snd.snd.fst =
                                                                                        x_5.snd.snd.snd.fst ∧
                                                                                      x.snd.snd.snd.snd.fst =
                                                                                          x_5.snd.snd.snd.snd.fst ∧
                                                                                        x.snd.snd.snd.snd.snd =
                                                                                            x_5.snd.snd.snd.snd.snd ∧
                                                                                          [] = x_5.fst ∧
                                                                                            (x_5.fst.length ≤ most ∧
                                                                                                ((0 : Int) ≤
                                                                                                      (pA
                                                                                                          (rP
                                                                                                            x_5.snd)).fst ∧
                                                                                                    (pA
                                                                                                          (rP
                                                                                                            x_5.snd)).fst <
                                                                                                      (18446744073709551616 :
                                                                                                        Int)) ∧
                                                                                                  (0 : Int) ≤
                                                                                                      (pA
                                                                                                            (rP
                                                                                                              x_5.snd)).snd.fst ∧
                                                                                                    (pA
                                                                                                            (rP
                                                                                                              x_5.snd)).snd.fst <
                                                                                                      (18446744073709551616 :
                                                                                                        Int)) ∧
                                                                                              ∀ (y : Unit),
                                                                                                True →
                                                                                                  ifB
                                                                                                    (decide
                                                                                                      (decide
                                                                                                          (x_4.fst ++
                                                                                                              putR
                                                                                                                x_4.snd =
                                                                                                            x_5.fst ++
                                                                                                              putR
                                                                                                                x_5.snd) =
                                                                                                        (decide
                                                                                                            (x.fst.fst =
                                                                                                              x.snd.fst) &&
                                                                                                          (decide
                                                                                                              (x.fst.snd.fst =
                                                                                                                x.snd.snd.fst) &&
                                                                                                            (decide
                                                                                                                (x.fst.snd.snd.fst =
                                                                                                                  x.snd.snd.snd.fst) &&
                                                                                                              (decide
                                                                                                                  (x.fst.snd.snd.snd.fst =
                                                                                                                    x.snd.snd.snd.snd.fst) &&
                                                                                                                decide
                                                                                                                  (x.fst.snd.snd.snd.snd =
                                                                                                                    x.snd.snd.snd.snd.snd)))))))
                                                                                                    (((0 : Int) ≤
                                                                                                          min
                                                                                                            (↑(x_4.fst ++
                                                                                                                    putR
                                                                                                                      x_4.snd).length :
                                                                                                              Int)
                                                                                                            (↑(x_5.fst ++
                                                                                                                    putR
                                                                                                                      x_5.snd).length :
                                                                                                              Int) ∧
                                                                                                        min
                                                                                                            (↑(x_4.fst ++
                                                                                                                    putR
                                                                                                                      x_4.snd).length :
                                                                                                              Int)
                                                                                                            (↑(x_5.fst ++
                                                                                                                    putR
                                                                                                                      x_5.snd).length :
                                                                                                              Int) ≤
                                                                                                          (↑(x_4.fst ++
                                                                                                                  putR
                                                                                                                    x_4.snd).length :
                                                                                                            Int)) ∧
                                                                                                      ((0 : Int) ≤
                                                                                                            min
                                                                                                              (↑(x_4.fst ++
                                                                                                                      putR
                                                                                                                        x_4.snd).length :
                                                                                                                Int)
                                                                                                              (↑(x_5.fst ++
                                                                                                                      putR
                                                                                                                        x_5.snd).length :
                                                                                                                Int) ∧
                                                                                                          min
                                                                                                              (↑(x_4.fst ++
                                                                                                                      putR
                                                                                                                        x_4.snd).length :
                                                                                                                Int)
                                                                                                              (↑(x_5.fst ++
                                                                                                                      putR
                                                                                                                        x_5.snd).length :
                                                                                                                Int) ≤
                                                                                                            (↑(x_5.fst ++
                                                                                                                    putR
                                                                                                                      x_5.snd).length :
                                                                                                              Int)) ∧
                                                                                                        ∃ (y : Unit),
                                                                                                          True ∧
                                                                                                            decide
                                                                                                                  (decide
                                                                                                                      (List.drop
                                                                                                                          (0 :
                                                                                                                            Nat)
                                                                                                                          (List.take
                                                                                                                            (min
                                                                                                                                (↑(x_4.fst ++
                                                                                                                                        putR
                                                                                                                                          x_4.snd).length :
                                                                                                                                  Int)
                                                                                                                                (↑(x_5.fst ++
                                                                                                                                        putR
                                                                                                                                          x_5.snd).length :
                                                                                                                                  Int)).toNat
                                                                                                                            (x_4.fst ++
                                                                                                                              putR
                                                                                                                                x_4.snd)) =
                                                                                                                        List.drop
                                                                                                                          (0 :
                                                                                                                            Nat)
                                                                                                                          (List.take
                                                                                                                            (min
                                                                                                                                (↑(x_4.fst ++
                                                                                                                                        putR
                                                                                                                                          x_4.snd).length :
                                                                                                                                  Int)
                                                                                                                                (↑(x_5.fst ++
                                                                                                                                        putR
                                                                                                                                          x_5.snd).length :
                                                                                                                                  Int)).toNat
                                                                                                                            (x_5.fst ++
                                                                                                                              putR
                                                                                                                                x_5.snd))) =
                                                                                                                    (decide
                                                                                                                        (x.fst.fst =
                                                                                                                          x.snd.fst) &&
                                                                                                                      (decide
                                                                                                                          (x.fst.snd.fst =
                                                                                                                            x.snd.snd.fst) &&
                                                                                                                        (decide
                                                                                                                            (x.fst.snd.snd.fst =
                                                                                                                              x.snd.snd.snd.fst) &&
                                                                                                                          (decide
                                                                                                                              (x.fst.snd.snd.snd.fst =
                                                                                                                                x.snd.snd.snd.snd.fst) &&
                                                                                                                            decide
                                                                                                                              (x.fst.snd.snd.snd.snd =
                                                                                                                                x.snd.snd.snd.snd.snd)))))) =
                                                                                                                true ∧
                                                                                                              True)
                                                                                                    (∃ (y : Unit),
                                                                                                      True ∧
                                                                                                        false = true ∧
                                                                                                          True)))
theorem o_apart : owes Try.prog (tab L04) LqL 0 7 Try.f7 WireApartL = T_apart := by kernel_rfl
def T_all : Prop :=
  ∀ (x : List Rt × List Int),
    ((∀ (r : Int × Int × Bool × Int × Int),
          List.Mem r x.fst →
            ((0 : Int) ≤ (pA (rP r)).fst ∧ (pA (rP r)).fst < (18446744073709551616 : Int)) ∧
              (0 : Int) ≤ (pA (rP r)).snd.fst ∧ (pA (rP r)).snd.fst < (18446744073709551616 : Int)) ∧
        ∀ (x_1 : Int), List.Mem x_1 x.snd → (0 : Int) ≤ x_1 ∧ x_1 ≤ (255 : Int)) →
      ∃ (x_1 : Unit),
        True ∧
          ∀ (y : Unit),
            True →
              ifB (decide ((60 : Int) < (↑x.fst.length : Int))) (∃ (y : Unit), True ∧ true = true ∧ True)
                (ifB (decide ((1000 : Int) < (↑x.snd.length : Int))) (∃ (y : Unit), True ∧ true = true ∧ True)
                  (∃ (I : Int × List Rt → Prop),
                    ∃ (μ : Int × List Rt → Nat),
                      (∃ (x : Int × List Rt), I x ∧ (0 : Int) = x.fst ∧ (0 : Nat) = x.snd.length ∧ [] = x.snd ∧ True) ∧
                        ∀ (x_2 : Int × List Rt),
                          I x_2 →
                            ifB (decide (x_2.fst < (↑x.fst.length : Int)))
                              (((0 : Int) ≤ x_2.fst ∧ x_2.fst < (↑x.fst.length : Int)) ∧
                                ∃ (x_3 : Int × Int × Bool × Int × Int),
                                  (x.fst.getD x_2.fst.toNat ((0 : Int), (0 : Int), false, (0 : Int), (0 : Int))).fst =
                                      x_3.fst ∧
                                    (x.fst.getD x_2.fst.toNat
                                              ((0 : Int), (0 : Int), false, (0 : Int), (0 : Int))).snd.fst =
                                        x_3.snd.fst ∧
                                      (x.fst.getD x_2.fst.toNat
                                                  ((0 : Int), (0 : Int), false, (0 : Int), (0 : Int))).snd.snd.fst =
                                          x_3.snd.snd.fst ∧
                                        (x.fst.getD x_2.fst.toNat
                                                      ((0 : Int), (0 : Int), false, (0 : Int),
                                                        (0 : Int))).snd.snd.snd.fst =
                                            x_3.snd.snd.snd.fst ∧
                                          (x.fst.getD x_2.fst.toNat
                                                        ((0 : Int), (0 : Int), false, (0 : Int),
                                                          (0 : Int))).snd.snd.snd.snd =
                                              x_3.snd.snd.snd.snd ∧
                                            (((0 : Int) ≤ (pA (rP x_3)).fst ∧
                                                  (pA (rP x_3)).fst < (18446744073709551616 : Int)) ∧
                                                (0 : Int) ≤ (pA (rP x_3)).snd.fst ∧
                                                  (pA (rP x_3)).snd.fst < (18446744073709551616 : Int)) ∧
                                              ∀ (y : Unit),
                                                True →
                                                  ifB (goodR x_3)
                                                    (((0 : Int) ≤ x_2.fst ∧ x_2.fst < (↑x.fst.length : Int)) ∧
                                                      ((x_2.snd.length +
                                                                [((x.fst.getD x_2.fst.toNat
                                                                          ((0 : Int), (0 : Int), false, (0 : Int),
                                                                            (0 : Int))).fst,
                                                                      (x.fst.getD x_2.fst.toNat
                                                                            ((0 : Int), (0 : Int), false, (0 : Int),
                                                                              (0 : Int))).snd.fst,
                                                                      (x.fst.getD x_2.fst.toNat
                                                                              ((0 : Int), (0 : Int), false, (0 : Int),
                                                                                (0 : Int))).snd.snd.fst,
                                                                      (x.fst.getD x_2.fst.toNat
                                                                                ((0 : Int), (0 : Int), false, (0 : Int),
                                                                                  (0 : Int))).snd.snd.snd.fst,
                                                                      (x.fst.getD x_2.fst.toNat
                                                                                ((0 : Int), (0 : Int), false, (0 : Int),
                                                                                  (0 : Int))).snd.snd.snd.snd)].length) *
                                                              (40 : Nat) ≤
                                                            (140737488355328 : Nat) ∧
                                                          x_2.snd.length +
                                                              [((x.fst.getD x_2.fst.toNat
                                                                        ((0 : Int), (0 : Int), false, (0 : Int),
                                                                          (0 : Int))).fst,
                                                                    (x.fst.getD x_2.fst.toNat
                                                                          ((0 : Int), (0 : Int), false, (0 : Int),
                                                                            (0 : Int))).snd.fst,
                                                                    (x.fst.getD x_2.fst.toNat
                                                                            ((0 : Int), (0 : Int), false, (0 : Int),
                                                                              (0 : Int))).snd.snd.fst,
                                                                    (x.fst.getD x_2.fst.toNat
                                                                              ((0 : Int), (0 : Int), false, (0 : Int),
                                                                                (0 : Int))).snd.snd.snd.fst,
                                                                    (x.fst.getD x_2.fst.toNat
                                                                              ((0 : Int), (0 : Int), false, (0 : Int),
                                                                                (0 : Int))).snd.snd.snd.snd)].length ≤
                                                            (140737488355328 : Nat)) ∧
                                                        ((-9223372036854775808 : Int) ≤ x_2.fst + (1 : Int) ∧
                                                            x_2.fst + (1 : Int) ≤ (9223372036854775807 : Int)) ∧
                                                          ∃ (y : Int × List Rt),
                                                            I y ∧
                                                              μ y < μ x_2 ∧
                                                                x_2.fst + (1 : Int) = y.fst ∧
                                                                  x_2.snd.length +
                                                                        [((x.fst.getD x_2.fst.toNat
                                                                                  ((0 : Int), (0 : Int), false, (0 : Int),
                                                                                    (0 : Int))).fst,
                                                                              (x.fst.getD x_2.fst.toNat
                                                                                    ((0 : Int), (0 : Int), false,
                                                                                      (0 : Int), (0 : Int))).snd.fst,
                                                                              (x.fst.getD x_2.fst.toNat
                                                                                      ((0 : Int), (0 : Int), false,
                                                                                        (0 : Int),
                                                                                        (0 : Int))).snd.snd.fst,
                                                                              (x.fst.getD x_2.fst.toNat
                                                                                        ((0 : Int), (0 : Int), false,
                                                                                          (0 : Int),
                                                                                          (0 : Int))).snd.snd.snd.fst,
                                                                              (x.fst.getD x_2.fst.toNat
                                                                                        ((0 : Int), (0 : Int), false,
                                                                                          (0 : Int),
                                                                                          (0 :
                                                                                            Int))).snd.snd.snd.snd)].length =
                                                                      y.snd.length ∧
                                                                    x_2.snd ++
                                                                          [((x.fst.getD x_2.fst.toNat
                                                                                  ((0 : Int), (0 : Int), false, (0 : Int),
                                                                                    (0 : Int))).fst,
                                                                              (x.fst.getD x_2.fst.toNat
                                                                                    ((0 : Int), (0 : Int), false,
                                                                                      (0 : Int), (0 : Int))).snd.fst,
                                                                              (x.fst.getD x_2.fst.toNat
                                                                                      ((0 : Int), (0 : Int), false,
                                                                                        (0 : Int),
                                                                                        (0 : Int))).snd.snd.fst,
                                                                              (x.fst.getD x_2.fst.toNat
                                                                                        ((0 : Int), (0 : Int), false,
                                                                                          (0 : Int),
                                                                                          (0 : Int))).snd.snd.snd.fst,
                                                                              (x.fst.getD x_2.fst.toNat
                                                                                        ((0 : Int), (0 : Int), false,
                                                                                          (0 : Int),
                                                                                          (0 : Int))).snd.snd.snd.snd)] =
                                                                        y.snd ∧
                                                                      True)
                                                    (((-9223372036854775808 : Int) ≤ x_2.fst + (1 : Int) ∧
                                                        x_2.fst + (1 : Int) ≤ (9223372036854775807 : Int)) ∧
                                                      ∃ (y : Int × List Rt),
                                                        I y ∧
                                                          μ y < μ x_2 ∧
                                                            x_2.fst + (1 : Int) = y.fst ∧
                                                              x_2.snd.length = y.snd.length ∧ x_2.snd = y.snd ∧ True))
                              (∃ (x_3 : List Rt),
                                x.fst.length = x_3.length ∧
                                  x.fst = x_3 ∧
                                    (x_3.length ≤ (5000 : Nat) ∧
                                        ∀ (r : Int × Int × Bool × Int × Int),
                                          List.Mem r x_3 →
                                            ((0 : Int) ≤ (pA (rP r)).fst ∧
                                                (pA (rP r)).fst < (18446744073709551616 : Int)) ∧
                                              (0 : Int) ≤ (pA (rP r)).snd.fst ∧
                                                (pA (rP r)).snd.fst < (18446744073709551616 : Int)) ∧
                                      ∀ (y : Unit),
                                        True →
                                          ∃ (x_4 : List Int),
                                            (putAllL x_3).length = x_4.length ∧
                                              putAllL x_3 = x_4 ∧
                                                ((∀ (x : Int), List.Mem x x_4 → (0 : Int) ≤ x ∧ x ≤ (255 : Int)) ∧
                                                    x_4.length ≤ most) ∧
                                                  ∀ (y : Unit),
                                                    True →
                                                      ∃ (x_5 : List Int),
                                                        x.snd.length = x_5.length ∧
                                                          x.snd = x_5 ∧
                                                            ((∀ (x : Int),
                                                                  List.Mem x x_5 → (0 : Int) ≤ x ∧ x ≤ (255 : Int)) ∧
                                                                x_5.length ≤ most) ∧
                                                              ∀ (y : Unit),
                                                                True →
                                                                  ifB (decide ((getAllL x_5).snd = (0 : Int)))
                                                                    (∃ (x_6 : List Rt),
                                                                      (getAllL x_5).fst.length = x_6.length ∧
                                                                        (getAllL x_5).fst = x_6 ∧
                                                                          (x_6.length ≤ (5000 : Nat) ∧
                                                                              ∀ (r : Int × Int × Bool × Int × Int),
                                                                                List.Mem r x_6 →
                                                                                  ((0 : Int) ≤ (pA (rP r)).fst ∧
                                                                                      (pA (rP r)).fst <
                                                                                        (18446744073709551616 : Int)) ∧
                                                                                    (0 : Int) ≤ (pA (rP r)).snd.fst ∧
                                                                                      (pA (rP r)).snd.fst <
                                                                                        (18446744073709551616 : Int)) ∧
                                                                            ∀ (y : Unit),
                                                                              True →
                                                                                ifB (!decide (putAllL x_6 = x.snd)) False
                                                                                  (ifB
                                                                                    (!decide
                                                                                        ((getAllL x_5).snd = (0 : Int)))
                                                                                    (ifB
                                                                                      (!decide
                                                                                          ((↑(getAllL x_5).fst.length :
                                                                                              Int) =
                                                                                            (0 : Int)))
                                                                                      (∃ (y : Unit),
                                                                                        True ∧ false = true ∧ True)
                                                                                      (ifB
                                                                                        (decide
                                                                                          ((getAllL x_4).snd = (0 : Int)))
                                                                                        (∃ (x : List Rt × List Rt),
                                                                                          (getAllL x_4).fst.length =
                                                                                              x.fst.length ∧
                                                                                            x_2.snd.length =
                                                                                                x.snd.length ∧
                                                                                              (getAllL x_4).fst = x.fst ∧
                                                                                                x_2.snd = x.snd ∧
                                                                                                  (x.fst.length ≤
                                                                                                        (1000000000 :
                                                                                                          Nat) ∧
                                                                                                      x.snd.length ≤
                                                                                                        (1000000000 :
                                                                                                          Nat)) ∧
                                                                                                    ∀ (y : Unit),
                                                                                                      True →
                                                                                                        ∃ (y : Unit),
                                                                                                          True ∧
                                                                                                            decide
                                                                                                                  (x.fst =
                                                                                                                    x.snd) =
                                                                                                                true ∧
                                                                                                              True)
                                                                                        (∃ (y : Unit),
                                                                                          True ∧ false = true ∧ True)))
                                                                                    (ifB
                                                                                      (decide
                                                                                        ((getAllL x_4).snd = (0 : Int)))
                                                                                      (∃ (x : List Rt × List Rt),
                                                                                        (getAllL x_4).fst.length =
                                                                                            x.fst.length ∧
                                                                                          x_2.snd.length = x.snd.length ∧
                                                                                            (getAllL x_4).fst = x.fst ∧
                                                                                              x_2.snd = x.snd ∧
                                                                                                (x.fst.length ≤
                                                                                                      (1000000000 : Nat) ∧
                                                                                                    x.snd.length ≤
                                                                                                      (1000000000 :
                                                                                                        Nat)) ∧
                                                                                                  ∀ (y : Unit),
                                                                                                    True →
                                                                                                      ∃ (y : Unit),
                                                                                                        True ∧
                                                                                                          decide
                                                                                                                (x.fst =
                                                                                                                  x.snd) =
                                                                                                              true ∧
                                                                                                            True)
                                                                                      (∃ (y : Unit),
                                                                                        True ∧ false = true ∧ True))))
                                                                    (ifB (!decide ((getAllL x_5).snd = (0 : Int)))
                                                                      (ifB
                                                                        (!decide
                                                                            ((↑(getAllL x_5).fst.length : Int) =
                                                                              (0 : Int)))
                                                                        (∃ (y : Unit), True ∧ false = true ∧ True)
                                                                        (ifB (decide ((getAllL x_4).snd = (0 : Int)))
                                                                          (∃ (x : List Rt × List Rt),
                                                                            (getAllL x_4).fst.length = x.fst.length ∧
                                                                              x_2.snd.length = x.snd.length ∧
                                                                                (getAllL x_4).fst = x.fst ∧
                                                                                  x_2.snd = x.snd ∧
                                                                                    (x.fst.length ≤ (1000000000 : Nat) ∧
                                                                                        x.snd.length ≤
                                                                                          (1000000000 : Nat)) ∧
                                                                                      ∀ (y : Unit),
                                                                                        True →
                                                                                          ∃ (y : Unit),
                                                                                            True ∧
                                                                                              decide (x.fst = x.snd) =
                                                                                                  true ∧
                                                                                                True)
                                                                          (∃ (y : Unit), True ∧ false = true ∧ True)))
                                                                      (ifB (decide ((getAllL x_4).snd = (0 : Int)))
                                                                        (∃ (x : List Rt × List Rt),
                                                                          (getAllL x_4).fst.length = x.fst.length ∧
                                                                            x_2.snd.length = x.snd.length ∧
                                                                              (getAllL x_4).fst = x.fst ∧
                                                                                x_2.snd = x.snd ∧
                                                                                  (x.fst.length ≤ (1000000000 : Nat) ∧
                                                                                      x.snd.length ≤ (1000000000 : Nat)) ∧
                                                                                    ∀ (y : Unit),
                                                                                      True →
                                                                                        ∃ (y : Unit),
                                                                                          True ∧
                                                                                            decide (x.fst = x.snd) =
                                                                                                true ∧
                                                                                              True)
                                                                        (∃ (y : Unit), True ∧ false = true ∧ True))))))
theorem o_all : owes Try.prog (tab L04) LqL 0 20 Try.f20 WireAllL = T_all := by kernel_rfl
def T_is : Prop :=
  ∀ (x : List Int × Rt),
    (∀ (x_1 : Int), List.Mem x_1 x.fst → (0 : Int) ≤ x_1 ∧ x_1 ≤ (255 : Int)) ∧
        ((0 : Int) ≤ (pA (rP x.snd)).fst ∧ (pA (rP x.snd)).fst < (18446744073709551616 : Int)) ∧
          (0 : Int) ≤ (pA (rP x.snd)).snd.fst ∧ (pA (rP x.snd)).snd.fst < (18446744073709551616 : Int) →
      ∃ (x_1 : Unit),
        True ∧
          ∀ (y : Unit),
            True →
              ifB (decide ((1000 : Int) < (↑x.fst.length : Int))) (∃ (y : Unit), True ∧ true = true ∧ True)
                (∃ (x_2 : List Int),
                  x.fst.length = x_2.length ∧
                    x.fst = x_2 ∧
                      ((∀ (x : Int), List.Mem x x_2 → (0 : Int) ≤ x ∧ x ≤ (255 : Int)) ∧ x_2.length ≤ most) ∧
                        ∀ (y : Unit),
                          True →
                            ∃ (x_3 : List Int),
                              x.fst.length = x_3.length ∧
                                x.fst = x_3 ∧
                                  ((∀ (x : Int), List.Mem x x_3 → (0 : Int) ≤ x ∧ x ≤ (255 : Int)) ∧ x_3.length ≤ most) ∧
                                    ∀ (y : Unit),
                                      True →
                                        ∃ (x_4 : List Int),
                                          x.fst.length = x_4.length ∧
                                            x.fst = x_4 ∧
                                              ((∀ (x : Int), List.Mem x x_4 → (0 : Int) ≤ x ∧ x ≤ (255 : Int)) ∧
                                                  x_4.length ≤ most) ∧
                                                ∀ (y : Unit),
                                                  True →
                                                    ∃ (x_5 : List Int),
                                                      x.fst.length = x_5.length ∧
                                                        x.fst = x_5 ∧
                                                          ((∀ (x : Int),
                                                                List.Mem x x_5 → (0 : Int) ≤ x ∧ x ≤ (255 : Int)) ∧
                                                              x_5.length ≤ most) ∧
                                                            ∀ (y : Unit),
                                                              True →
                                                                ∃ (x_6 : List Int),
                                                                  x.fst.length = x_6.length ∧
                                                                    x.fst = x_6 ∧
                                                                      ((∀ (x : Int),
                                                                            List.Mem x x_6 →
                                                                              (0 : Int) ≤ x ∧ x ≤ (255 : Int)) ∧
                                                                          x_6.length ≤ most) ∧
                                                                        ∀ (y : Unit),
                                                                          True →
                                                                            ∃ (x_7 : List Int),
                                                                              x.fst.length = x_7.length ∧
                                                                                x.fst = x_7 ∧
                                                                                  ((∀ (x : Int),
                                                                                        List.Mem x x_7 →
                                                                                          (0 : Int) ≤ x ∧
                                                                                            x ≤ (255 : Int)) ∧
                                                                                      x_7.length ≤ most) ∧
                                                                                    ∀ (y : Unit),
                                                                                      True →
                                                                                        ifB
                                                                                          (!(decide
                                                                                                ((getP x_2).fst.fst =
                                                                                                  (getP x_3).fst.fst) &&
                                                                                              (decide
                                                                                                  ((getP
                                                                                                            x_2).fst.snd.fst =
                                                                                                    (getP
                                                                                                            x_3).fst.snd.fst) &&
                                                                                                (decide
                                                                                                    ((getP
                                                                                                                x_2).fst.snd.snd.fst =
                                                                                                      (getP
                                                                                                                x_3).fst.snd.snd.fst) &&
                                                                                                  decide
                                                                                                    ((getP
                                                                                                                x_2).fst.snd.snd.snd =
                                                                                                      (getP
                                                                                                                x_3).fst.snd.snd.snd)))))
                                                                                          (∃ (y : Unit),
                                                                                            True ∧ false = true ∧ True)
                                                                                          (ifB
                                                                                            (!decide
                                                                                                ((getP x_2).snd.fst =
                                                                                                  (getP x_3).snd.fst))
                                                                                            (∃ (y : Unit),
                                                                                              True ∧ false = true ∧ True)
                                                                                            (ifB
                                                                                              (!decide
                                                                                                  ((getP x_2).snd.snd =
                                                                                                    (getP x_3).snd.snd))
                                                                                              (∃ (y : Unit),
                                                                                                True ∧
                                                                                                  false = true ∧ True)
                                                                                              (ifB
                                                                                                (!(decide
                                                                                                      ((getR
                                                                                                              x_4).fst.fst =
                                                                                                        (getR
                                                                                                              x_5).fst.fst) &&
                                                                                                    (decide
                                                                                                        ((getR
                                                                                                                  x_4).fst.snd.fst =
                                                                                                          (getR
                                                                                                                  x_5).fst.snd.fst) &&
                                                                                                      (decide
                                                                                                          ((getR
                                                                                                                      x_4).fst.snd.snd.fst =
                                                                                                            (getR
                                                                                                                      x_5).fst.snd.snd.fst) &&
                                                                                                        (decide
                                                                                                            ((getR
                                                                                                                          x_4).fst.snd.snd.snd.fst =
                                                                                                              (getR
                                                                                                                          x_5).fst.snd.snd.snd.fst) &&
                                                                                                          decide
                                                                                                            ((getR
                                                                                                                          x_4).fst.snd.snd.snd.snd =
                                                                                                              (getR
                                                                                                                          x_5).fst.snd.snd.snd.snd))))))
                                                                                                (∃ (y : Unit),
                                                                                                  True ∧
                                                                                                    false = true ∧ True)
                                                                                                (ifB
                                                                                                  (!decide
                                                                                                      ((getR
                                                                                                              x_4).snd.fst =
                                                                                                        (getR
                                                                                                              x_5).snd.fst))
                                                                                                  (∃ (y : Unit),
                                                                                                    True ∧
                                                                                                      false = true ∧ True)
                                                                                                  (ifB
                                                                                                    (!decide
                                                                                                        ((getR
                                                                                                                x_4).snd.snd =
                                                                                                          (getR
                                                                                                                x_5).snd.snd))
                                                                                                    (∃ (y : Unit),
                                                                                                      True ∧
                                                                                                        false = true ∧
                                                                                                          True)
                                                                                                    (∃ (x_8 :
                                                                                                      List Rt × List Rt),
                                                                                                      (getAllL
                                                                                                                x_6).fst.length =
                                                                                                          x_8.fst.length ∧
                                                                                                        (getAllL
                                                                                                                  x_7).fst.length =
                                                                                                            x_8.snd.length ∧
                                                                                                          (getAllL
                                                                                                                  x_6).fst =
                                                                                                              x_8.fst ∧
                                                                                                            (getAllL
                                                                                                                    x_7).fst =
                                                                                                                x_8.snd ∧
                                                                                                              (x_8.fst.length ≤
                                                                                                                    (1000000000 :
                                                                                                                      Nat) ∧
                                                                                                                  x_8.snd.length ≤
                                                                                                                    (1000000000 :
                                                                                                                      Nat)) ∧
                                                                                                                ∀
                                                                                                                  (y :
                                                                                                                    Unit),
                                                                                                                  True →
                                                                                                                    ifB
                                                                                                                      (!decide
                                                                                                                          (x_8.fst =
                                                                                                                            x_8.snd))
                                                                                                                      (∃
                                                                                                                        (y
                                                                                                                        :
                                                                                                                        Unit),
                                                                                                                        True ∧
                                                                                                                          false =
                                                                                                                              true ∧
                                                                                                                            True)
                                                                                                                      (ifB
                                                                                                                        (!decide
                                                                                                                            ((getAllL
                                                                                                                                  x_6).snd =
                                                                                                                              (getAllL
                                                                                                                                  x_7).snd))
                                                                                                                        (∃
                                                                                                                          (y
                                                                                                                          :
                                                                                                                          Unit),
                                                                                                                          True ∧
                                                                                                                            false =
                                                                                                                                true ∧
                                                                                                                              True)
                                                                                                                        (∃
                                                                                                                          (x_9
                                                                                                                          :
                                                                                                                          List
                                                                                                                              Int ×
                                                                                                                            Pf),
                                                                                                                          x.fst.length =
                                                                                                                              x_9.fst.length ∧
                                                                                                                            x.snd.fst =
                                                                                                                                x_9.snd.fst ∧
                                                                                                                              x.snd.snd.fst =
                                                                                                                                  x_9.snd.snd.fst ∧
                                                                                                                                x.snd.snd.snd.fst =
                                                                                                                                    x_9.snd.snd.snd.fst ∧
                                                                                                                                  x.snd.snd.snd.snd.fst =
                                                                                                                                      x_9.snd.snd.snd.snd ∧
                                                                                                                                    x.fst =
                                                                                                                                        x_9.fst ∧
                                                                                                                                      (x_9.fst.length ≤
                                                                                                                                            most ∧
                                                                                                                                          ((0 :
                                                                                                                                                  Int) ≤
                                                                                                                                                (pA
                                                                                                                                                    x_9.snd).fst ∧
                                                                                                                                              (pA
                                                                                                                                                    x_9.snd).fst <
                                                                                                                                                (18446744073709551616 :
                                                                                                                                                  Int)) ∧
                                                                                                                                            (0 :
                                                                                                                                                  Int) ≤
                                                                                                                                                (pA
                                                                                                                                                      x_9.snd).snd.fst ∧
                                                                                                                                              (pA
                                                                                                                                                      x_9.snd).snd.fst <
                                                                                                                                                (18446744073709551616 :
                                                                                                                                                  Int)) ∧
                                                                                                                                        ∀
                                                                                                                                          (y :
                                                                                                                                            Unit),
                                                                                                                                          True →
                                                                                                                                            ∃
                                                                                                                                              (x_10
                                                                                                                                              :
                                                                                                                                              List
                                                                                                                                                  Int ×
                                                                                                                                                Pf),
                                                                                                                                              x.fst.length =
                                                                                                                                                  x_10.fst.length ∧
                                                                                                                                                x.snd.fst =
                                                                                                                                                    x_10.snd.fst ∧
                                                                                                                                                  x.snd.snd.fst =
                                                                                                                                                      x_10.snd.snd.fst ∧
                                                                                                                                                    x.snd.snd.snd.fst =
                                                                                                                                                        x_10.snd.snd.snd.fst ∧
                                                                                                                                                      x.snd.snd.snd.snd.fst =
                                                                                                                                                          x_10.snd.snd.snd.snd ∧
                                                                                                                                                        x.fst =
                                                                                                                                                            x_10.fst ∧
                                                                                                                                                          (x_10.fst.length ≤
                                                                                                                                                                most ∧
                                                                                                                                                              ((0 :
                                                                                                                                                                      Int) ≤
                                                                                                                                                                    (pA
                                                                                                                                                                        x_10.snd).fst ∧
                                                                                                                                                                  (pA
                                                                                                                                                                        x_10.snd).fst <
                                                                                                                                                                    (18446744073709551616 :
                                                                                                                                                                      Int)) ∧
                                                                                                                                                                (0 :
                                                                                                                                                                      Int) ≤
                                                                                                                                                                    (pA
                                                                                                                                                                          x_10.snd).snd.fst ∧
                                                                                                                                                                  (pA
                                                                                                                                                                          x_10.snd).snd.fst <
                                                                                                                                                                    (18446744073709551616 :
                                                                                                                                                                      Int)) ∧
                                                                                                                                                            ∀
                                                                                                                                                              (y :
                                                                                                                                                                Unit),
                                                                                                                                                              True →
                                                                                                                                                                ifB
                                                                                                                                                                  (decide
                                                                                                                                                                    (x_9.fst ++
                                                                                                                                                                        putP
                                                                                                                                                                          x_9.snd =
                                                                                                                                                                      x_10.fst ++
                                                                                                                                                                        putP
                                                                                                                                                                          x_10.snd))
                                                                                                                                                                  (∃
                                                                                                                                                                    (x_11
                                                                                                                                                                    :
                                                                                                                                                                    List
                                                                                                                                                                        Int ×
                                                                                                                                                                      Rt),
                                                                                                                                                                    x.fst.length =
                                                                                                                                                                        x_11.fst.length ∧
                                                                                                                                                                      x.snd.fst =
                                                                                                                                                                          x_11.snd.fst ∧
                                                                                                                                                                        x.snd.snd.fst =
                                                                                                                                                                            x_11.snd.snd.fst ∧
                                                                                                                                                                          x.snd.snd.snd.fst =
                                                                                                                                                                              x_11.snd.snd.snd.fst ∧
                                                                                                                                                                            x.snd.snd.snd.snd.fst =
                                                                                                                                                                                x_11.snd.snd.snd.snd.fst ∧
                                                                                                                                                                              x.snd.snd.snd.snd.snd =
                                                                                                                                                                                  x_11.snd.snd.snd.snd.snd ∧
                                                                                                                                                                                x.fst =
                                                                                                                                                                                    x_11.fst ∧
                                                                                                                                                                                  (x_11.fst.length ≤
                                                                                                                                                                                        most ∧
                                                                                                                                                                                      ((0 :
                                                                                                                                                                                              Int) ≤
                                                                                                                                                                                            (pA
                                                                                                                                                                                                (rP
                                                                                                                                                                                                  x_11.snd)).fst ∧
                                                                                                                                                                                          (pA
                                                                                                                                                                                                (rP
                                                                                                                                                                                                  x_11.snd)).fst <
                                                                                                                                                                                            (18446744073709551616 :
                                                                                                                                                                                              Int)) ∧
                                                                                                                                                                                        (0 :
                                                                                                                                                                                              Int) ≤
                                                                                                                                                                                            (pA
                                                                                                                                                                                                  (rP
                                                                                                                                                                                                    x_11.snd)).snd.fst ∧
                                                                                                                                                                                          (pA
                                                                                                                                                                                                  (rP
                                                                                                                                                                                                    x_11.snd)).snd.fst <
                                                                                                                                                                                            (18446744073709551616 :
                                                                                                                                                                                              Int)) ∧
                                                                                                                                                                                    ∀
                                                                                                                                                                                      (y :
                                                                                                                                                                                        Unit),
                                                                                                                                                                                      True →
                                                                                                                                                                                        ∃
                                                                                                                                                                                          (x_12
                                                                                                                                                                                          :
                                                                                                                                                                                          List
                                                                                                                                                                                              Int ×
                                                                                                                                                                                            Rt),
                                                                                                                                                                                          x.fst.length =
                                                                                                                                                                                              x_12.fst.length ∧
                                                                                                                                                                                            x.snd.fst =
                                                                                                                                                                                                x_12.snd.fst ∧
                                                                                                                                                                                              x.snd.snd.fst =
                                                                                                                                                                                                  x_12.snd.snd.fst ∧
                                                                                                                                                                                                x.snd.snd.snd.fst =
                                                                                                                                                                                                    x_12.snd.snd.snd.fst ∧
                                                                                                                                                                                                  x.snd.snd.snd.snd.fst =
                                                                                                                                                                                                      x_12.snd.snd.snd.snd.fst ∧
                                                                                                                                                                                                    x.snd.snd.snd.snd.snd =
                                                                                                                                                                                                        x_12.snd.snd.snd.snd.snd ∧
                                                                                                                                                                                                      x.fst =
                                                                                                                                                                                                          x_12.fst ∧
                                                                                                                                                                                                        (x_12.fst.length ≤
                                                                                                                                                                                                              most ∧
                                                                                                                                                                                                            ((0 :
                                                                                                                                                                                                                    Int) ≤
                                                                                                                                                                                                                  (pA
                                                                                                                                                                                                                      (rP
                                                                                                                                                                                                                        x_12.snd)).fst ∧
                                                                                                                                                                                                                (pA
                                                                                                                                                                                                                      (rP
                                                                                                                                                                                                                        x_12.snd)).fst <
                                                                                                                                                                                                                  (18446744073709551616 :
                                                                                                                                                                                                                    Int)) ∧
                                                                                                                                                                                                              (0 :
                                                                                                                                                                                                                    Int) ≤
                                                                                                                                                                                                                  (pA
                                                                                                                                                                                                                        (rP
                                                                                                                                                                                                                          x_12.snd)).snd.fst ∧
                                                                                                                                                                                                                (pA
                                                                                                                                                                                                                        (rP
                                                                                                                                                                                                                          x_12.snd)).snd.fst <
                                                                                                                                                                                                                  (18446744073709551616 :
                                                                                                                                                                                                                    Int)) ∧
                                                                                                                                                                                                          ∀
                                                                                                                                                                                                            (y :
                                                                                                                                                                                                              Unit),
                                                                                                                                                                                                            True →
                                                                                                                                                                                                              ifB
                                                                                                                                                                                                                (decide
                                                                                                                                                                                                                  (x_11.fst ++
                                                                                                                                                                                                                      putR
                                                                                                                                                                                                                        x_11.snd =
                                                                                                                                                                                                                    x_12.fst ++
                                                                                                                                                                                                                      putR
                                                                                                                                                                                                                        x_12.snd))
                                                                                                                                                                                                                (∃
                                                                                                                                                                                                                  (x_13
                                                                                                                                                                                                                  :
                                                                                                                                                                                                                  Int ×
                                                                                                                                                                                                                    Int ×
                                                                                                                                                                                                                      Bool ×
                                                                                                                                                                                                                        Int ×
                                                                                                                                                                                                                          Int),
                                                                                                                                                                                                                  x.snd.fst =
                                                                                                                                                                                                                      x_13.fst ∧
                                                                                                                                                                                                                    x.snd.snd.fst =
                                                                                                                                                                                                                        x_13.snd.fst ∧
                                                                                                                                                                                                                      x.snd.snd.snd.fst =
                                                                                                                                                                                                                          x_13.snd.snd.fst ∧
                                                                                                                                                                                                                        x.snd.snd.snd.snd.fst =
                                                                                                                                                                                                                            x_13.snd.snd.snd.fst ∧
                                                                                                                                                                                                                          x.snd.snd.snd.snd.snd =
                                                                                                                                                                                                                              x_13.snd.snd.snd.snd ∧
                                                                                                                                                                                                                            (((0 :
                                                                                                                                                                                                                                      Int) ≤
                                                                                                                                                                                                                                    (pA
                                                                                                                                                                                                                                        (rP
                                                                                                                                                                                                                                          x_13)).fst ∧
                                                                                                                                                                                                                                  (pA
                                                                                                                                                                                                                                        (rP
                                                                                                                                                                                                                                          x_13)).fst <
                                                                                                                                                                                                                                    (18446744073709551616 :
                                                                                                                                                                                                                                      Int)) ∧
                                                                                                                                                                                                                                (0 :
                                                                                                                                                                                                                                      Int) ≤
                                                                                                                                                                                                                                    (pA
                                                                                                                                                                                                                                          (rP
                                                                                                                                                                                                                                            x_13)).snd.fst ∧
                                                                                                                                                                                                                                  (pA
                                                                                                                                                                                                                                          (rP
                                                                                                                                                                                                                                            x_13)).snd.fst <
                                                                                                                                                                                                                                    (18446744073709551616 :
                                                                                                                                                                                                                                      Int)) ∧
                                                                                                                                                                                                                              ∀
                                                                                                                                                                                                                                (y :
                                                                                                                                                                                                                                  Unit),
                                                                                                                                                                                                                                True →
                                                                                                                                                                                                                                  ∃
                                                                                                                                                                                                                                    (x_14
                                                                                                                                                                                                                                    :
                                                                                                                                                                                                                                    Int ×
                                                                                                                                                                                                                                      Int ×
                                                                                                                                                                                                                                        Bool ×
                                                                                                                                                                                                                                          Int ×
                                                                                                                                                                                                                                            Int),
                                                                                                                                                                                                                                    x.snd.fst =
                                                                                                                                                                                                                                        x_14.fst ∧
                                                                                                                                                                                                                                      x.snd.snd.fst =
                                                                                                                                                                                                                                          x_14.snd.fst ∧
                                                                                                                                                                                                                                        x.snd.snd.snd.fst =
                                                                                                                                                                                                                                            x_14.snd.snd.fst ∧
                                                                                                                                                                                                                                          x.snd.snd.snd.snd.fst =
                                                                                                                                                                                                                                              x_14.snd.snd.snd.fst ∧
                                                                                                                                                                                                                                            x.snd.snd.snd.snd.snd =
                                                                                                                                                                                                                                                x_14.snd.snd.snd.snd ∧
                                                                                                                                                                                                                                              (((0 :
                                                                                                                                                                                                                                                        Int) ≤
                                                                                                                                                                                                                                                      (pA
                                                                                                                                                                                                                                                          (rP
                                                                                                                                                                                                                                                            x_14)).fst ∧
                                                                                                                                                                                                                                                    (pA
                                                                                                                                                                                                                                                          (rP
                                                                                                                                                                                                                                                            x_14)).fst <
                                                                                                                                                                                                                                                      (18446744073709551616 :
                                                                                                                                                                                                                                                        Int)) ∧
                                                                                                                                                                                                                                                  (0 :
                                                                                                                                                                                                                                                        Int) ≤
                                                                                                                                                                                                                                                      (pA
                                                                                                                                                                                                                                                            (rP
                                                                                                                                                                                                                                                              x_14)).snd.fst ∧
                                                                                                                                                                                                                                                    (pA
                                                                                                                                                                                                                                                            (rP
                                                                                                                                                                                                                                                              x_14)).snd.fst <
                                                                                                                                                                                                                                                      (18446744073709551616 :
                                                                                                                                                                                                                                                        Int)) ∧
                                                                                                                                                                                                                                                ∀
                                                                                                                                                                                                                                                  (y :
                                                                                                                                                                                                                                                    Unit),
                                                                                                                                                                                                                                                  True →
                                                                                                                                                                                                                                                    ∃
                                                                                                                                                                                                                                                      (y
                                                                                                                                                                                                                                                      :
                                                                                                                                                                                                                                                      Unit),
                                                                                                                                                                                                                                                      True ∧
                                                                                                                                                                                                                                                        decide
                                                                                                                                                                                                                                                              (goodR
                                                                                                                                                                                                                                                                  x_13 =
                                                                                                                                                                                                                                                                goodR
                                                                                                                                                                                                                                                                  x_14) =
                                                                                                                                                                                                                                                            true ∧
                                                                                                                                                                                                                                                          True)
                                                                                                                                                                                                                (∃
                                                                                                                                                                                                                  (y
                                                                                                                                                                                                                  :
                                                                                                                                                                                                                  Unit),
                                                                                                                                                                                                                  True ∧
                                                                                                                                                                                                                    false =
                                                                                                                                                                                                                        true ∧
                                                                                                                                                                                                                      True))
                                                                                                                                                                  (∃
                                                                                                                                                                    (y
                                                                                                                                                                    :
                                                                                                                                                                    Unit),
                                                                                                                                                                    True ∧
                                                                                                                                                                      false =
                                                                                                                                                                          true ∧
                                                                                                                                                                        True))))))))))
theorem o_is : owes Try.prog (tab L04) LqL 0 19 Try.f19 WireIsL = T_is := by kernel_rfl
end Sp
