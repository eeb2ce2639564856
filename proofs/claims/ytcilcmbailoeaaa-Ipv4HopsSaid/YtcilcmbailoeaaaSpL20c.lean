/- Printed by sx.py, a program of this work: what the walks of some functions owe. -/
import Derived.Test.YtcilcmbailoeaaaSpL20
import Derived.ProofKit
set_option linter.all false
set_option maxRecDepth 100000
namespace Sp
open Go Go.Proofs Sx
def T_hops4 : Prop :=
  ∀ (x : List Int),
    (∀ (x_1 : Int), List.Mem x_1 x → (0 : Int) ≤ x_1 ∧ x_1 ≤ (255 : Int)) →
      ∃ (x_1 : Unit),
        True ∧
          ∀ (y : Unit),
            True →
              ifB (decide ((3000 : Int) < (↑x.length : Int))) (∃ (y : Unit), True ∧ true = true ∧ True)
                (∃ (x_2 : List Int),
                  x.length = x_2.length ∧
                    x = x_2 ∧
                      (∀ (x : Int), List.Mem x x_2 → (0 : Int) ≤ x ∧ x ≤ (255 : Int)) ∧
                        ∀ (y : Unit),
                          True →
                            ∃ (x_3 : List Int),
                              x.length = x_3.length ∧
                                x = x_3 ∧
                                  ((∀ (x : Int), List.Mem x x_3 → (0 : Int) ≤ x ∧ x ≤ (255 : Int)) ∧ x_3.length ≤ most) ∧
                                    ∀ (y : Unit),
                                      True →
                                        ifB (decide ((parse4 x_2).snd = (0 : Int)))
                                          (ifB
                                            (!decide ((hop4 x_3).snd = decide ((2 : Int) ≤ (parse4 x_2).fst.snd.snd.fst)))
                                            (∃ (y : Unit), True ∧ false = true ∧ True)
                                            (ifB (!(hop4 x_3).snd)
                                              (∃ (y : Unit),
                                                True ∧ decide ((↑(hop4 x_3).fst.length : Int) = (0 : Int)) = true ∧ True)
                                              (∃ (x_4 : List Int),
                                                (hop4 x_3).fst.length = x_4.length ∧
                                                  (hop4 x_3).fst = x_4 ∧
                                                    (∀ (x : Int), List.Mem x x_4 → (0 : Int) ≤ x ∧ x ≤ (255 : Int)) ∧
                                                      ∀ (y : Unit),
                                                        True →
                                                          ((-9223372036854775808 : Int) ≤
                                                                (parse4 x_2).fst.snd.snd.fst - (1 : Int) ∧
                                                              (parse4 x_2).fst.snd.snd.fst - (1 : Int) ≤
                                                                (9223372036854775807 : Int)) ∧
                                                            ((0 : Int) ≤
                                                                  min (↑(hop4 x_3).fst.length : Int)
                                                                    (parse4 x_2).fst.fst ∧
                                                                min (↑(hop4 x_3).fst.length : Int) (parse4 x_2).fst.fst ≤
                                                                  (↑(hop4 x_3).fst.length : Int)) ∧
                                                              ∃ (x_5 : List Int × Int),
                                                                (min (↑(hop4 x_3).fst.length : Int)
                                                                          (parse4 x_2).fst.fst).toNat -
                                                                      (0 : Nat) =
                                                                    x_5.fst.length ∧
                                                                  (10 : Int) = x_5.snd ∧
                                                                    List.drop (0 : Nat)
                                                                          (List.take
                                                                            (min (↑(hop4 x_3).fst.length : Int)
                                                                                (parse4 x_2).fst.fst).toNat
                                                                            (hop4 x_3).fst) =
                                                                        x_5.fst ∧
                                                                      ((∀ (x : Int),
                                                                            List.Mem x x_5.fst →
                                                                              (0 : Int) ≤ x ∧ x ≤ (255 : Int)) ∧
                                                                          x_5.fst.length ≤ most ∧
                                                                            (-9223372036854775808 : Int) ≤ x_5.snd ∧
                                                                              x_5.snd ≤ (9223372036854775807 : Int)) ∧
                                                                        ∀ (y : Unit),
                                                                          True →
                                                                            ifB (!decide ((parse4 x_4).snd = (0 : Int)))
                                                                              (∃ (y : Unit), True ∧ false = true ∧ True)
                                                                              (ifB
                                                                                (!(decide
                                                                                      ((parse4 x_4).fst.fst =
                                                                                        (parse4 x_2).fst.fst) &&
                                                                                    (decide
                                                                                        ((parse4 x_4).fst.snd.fst =
                                                                                          (parse4 x_2).fst.snd.fst) &&
                                                                                      (decide
                                                                                          ((parse4 x_4).fst.snd.snd.fst =
                                                                                            (parse4 x_2).fst.snd.snd.fst -
                                                                                              (1 : Int)) &&
                                                                                        (decide
                                                                                            ((parse4
                                                                                                          x_4).fst.snd.snd.snd.fst =
                                                                                              (parse4
                                                                                                          x_2).fst.snd.snd.snd.fst) &&
                                                                                          (decide
                                                                                              ((parse4
                                                                                                              x_4).fst.snd.snd.snd.snd.fst =
                                                                                                (parse4
                                                                                                              x_2).fst.snd.snd.snd.snd.fst) &&
                                                                                            (decide
                                                                                                ((parse4
                                                                                                                  x_4).fst.snd.snd.snd.snd.snd.fst =
                                                                                                  (parse4
                                                                                                                  x_2).fst.snd.snd.snd.snd.snd.fst) &&
                                                                                              (decide
                                                                                                  ((parse4
                                                                                                                      x_4).fst.snd.snd.snd.snd.snd.snd.fst =
                                                                                                    (parse4
                                                                                                                      x_2).fst.snd.snd.snd.snd.snd.snd.fst) &&
                                                                                                (decide
                                                                                                    ((parse4
                                                                                                                          x_4).fst.snd.snd.snd.snd.snd.snd.snd.fst =
                                                                                                      (parse4
                                                                                                                          x_2).fst.snd.snd.snd.snd.snd.snd.snd.fst) &&
                                                                                                  (decide
                                                                                                      ((parse4
                                                                                                                              x_4).fst.snd.snd.snd.snd.snd.snd.snd.snd.fst =
                                                                                                        (parse4
                                                                                                                              x_2).fst.snd.snd.snd.snd.snd.snd.snd.snd.fst) &&
                                                                                                    decide
                                                                                                      ((parse4
                                                                                                                              x_4).fst.snd.snd.snd.snd.snd.snd.snd.snd.snd =
                                                                                                        (parse4
                                                                                                                              x_2).fst.snd.snd.snd.snd.snd.snd.snd.snd.snd)))))))))))
                                                                                (∃ (y : Unit),
                                                                                  True ∧ false = true ∧ True)
                                                                                (ifB
                                                                                  (!decide
                                                                                      ((↑(hop4 x_3).fst.length : Int) =
                                                                                        (parse4 x_2).fst.snd.fst))
                                                                                  (∃ (y : Unit),
                                                                                    True ∧ false = true ∧ True)
                                                                                  (((0 : Int) ≤ (parse4 x_2).fst.fst ∧
                                                                                      (parse4 x_2).fst.fst ≤
                                                                                        (↑(hop4 x_3).fst.length : Int)) ∧
                                                                                    ifB
                                                                                      (!decide
                                                                                          (fillZ x_5.fst x_5.snd =
                                                                                            List.drop (0 : Nat)
                                                                                              (List.take
                                                                                                (parse4 x_2).fst.fst.toNat
                                                                                                (hop4 x_3).fst)))
                                                                                      (∃ (y : Unit),
                                                                                        True ∧ false = true ∧ True)
                                                                                      (∃ (I : Int → Prop),
                                                                                        ∃ (μ : Int → Nat),
                                                                                          (∃ (x : Int),
                                                                                              I x ∧
                                                                                                (0 : Int) = x ∧ True) ∧
                                                                                            ∀ (x_6 : Int),
                                                                                              I x_6 →
                                                                                                ifB
                                                                                                  (decide
                                                                                                    (x_6 <
                                                                                                      (↑(hop4
                                                                                                                x_3).fst.length :
                                                                                                        Int)))
                                                                                                  (ifB
                                                                                                    (!decide
                                                                                                        (x_6 = (8 : Int)))
                                                                                                    (ifB
                                                                                                      (!decide
                                                                                                          (x_6 =
                                                                                                            (10 : Int)))
                                                                                                      (ifB
                                                                                                        (!decide
                                                                                                            (x_6 =
                                                                                                              (11 : Int)))
                                                                                                        (((0 : Int) ≤
                                                                                                              x_6 ∧
                                                                                                            x_6 <
                                                                                                              (↑(hop4
                                                                                                                        x_3).fst.length :
                                                                                                                Int)) ∧
                                                                                                          ((0 : Int) ≤
                                                                                                                x_6 ∧
                                                                                                              x_6 <
                                                                                                                (↑x.length :
                                                                                                                  Int)) ∧
                                                                                                            ifB
                                                                                                              (!decide
                                                                                                                  ((hop4
                                                                                                                            x_3).fst.getD
                                                                                                                      x_6.toNat
                                                                                                                      (0 :
                                                                                                                        Int) =
                                                                                                                    x.getD
                                                                                                                      x_6.toNat
                                                                                                                      (0 :
                                                                                                                        Int)))
                                                                                                              (∃ (y :
                                                                                                                Unit),
                                                                                                                True ∧
                                                                                                                  false =
                                                                                                                      true ∧
                                                                                                                    True)
                                                                                                              (((-9223372036854775808 :
                                                                                                                      Int) ≤
                                                                                                                    x_6 +
                                                                                                                      (1 :
                                                                                                                        Int) ∧
                                                                                                                  x_6 +
                                                                                                                      (1 :
                                                                                                                        Int) ≤
                                                                                                                    (9223372036854775807 :
                                                                                                                      Int)) ∧
                                                                                                                ∃ (y :
                                                                                                                  Int),
                                                                                                                  I y ∧
                                                                                                                    μ y <
                                                                                                                        μ
                                                                                                                          x_6 ∧
                                                                                                                      x_6 +
                                                                                                                            (1 :
                                                                                                                              Int) =
                                                                                                                          y ∧
                                                                                                                        True))
                                                                                                        (((-9223372036854775808 :
                                                                                                                Int) ≤
                                                                                                              x_6 +
                                                                                                                (1 :
                                                                                                                  Int) ∧
                                                                                                            x_6 +
                                                                                                                (1 :
                                                                                                                  Int) ≤
                                                                                                              (9223372036854775807 :
                                                                                                                Int)) ∧
                                                                                                          ∃ (y : Int),
                                                                                                            I y ∧
                                                                                                              μ y <
                                                                                                                  μ x_6 ∧
                                                                                                                x_6 +
                                                                                                                      (1 :
                                                                                                                        Int) =
                                                                                                                    y ∧
                                                                                                                  True))
                                                                                                      (((-9223372036854775808 :
                                                                                                              Int) ≤
                                                                                                            x_6 +
                                                                                                              (1 : Int) ∧
                                                                                                          x_6 +
                                                                                                              (1 : Int) ≤
                                                                                                            (9223372036854775807 :
                                                                                                              Int)) ∧
                                                                                                        ∃ (y : Int),
                                                                                                          I y ∧
                                                                                                            μ y < μ x_6 ∧
                                                                                                              x_6 +
                                                                                                                    (1 :
                                                                                                                      Int) =
                                                                                                                  y ∧
                                                                                                                True))
                                                                                                    (((-9223372036854775808 :
                                                                                                            Int) ≤
                                                                                                          x_6 +
                                                                                                            (1 : Int) ∧
                                                                                                        x_6 + (1 : Int) ≤
                                                                                                          (9223372036854775807 :
                                                                                                            Int)) ∧
                                                                                                      ∃ (y : Int),
                                                                                                        I y ∧
                                                                                                          μ y < μ x_6 ∧
                                                                                                            x_6 +
                                                                                                                  (1 :
                                                                                                                    Int) =
                                                                                                                y ∧
                                                                                                              True))
                                                                                                  (∃ (I :
                                                                                                    List Int ×
                                                                                                        Bool × Int →
                                                                                                      Prop),
                                                                                                    ∃ (μ :
                                                                                                      List Int ×
                                                                                                          Bool × Int →
                                                                                                        Nat),
                                                                                                      (∃ (x :
                                                                                                          List Int ×
                                                                                                            Bool × Int),
                                                                                                          I x ∧
                                                                                                            (hop4
                                                                                                                      x_3).fst.length =
                                                                                                                x.fst.length ∧
                                                                                                              (hop4
                                                                                                                      x_3).snd =
                                                                                                                  x.snd.fst ∧
                                                                                                                (0 :
                                                                                                                      Int) =
                                                                                                                    x.snd.snd ∧
                                                                                                                  (hop4
                                                                                                                          x_3).fst =
                                                                                                                      x.fst ∧
                                                                                                                    True) ∧
                                                                                                        ∀
                                                                                                          (x :
                                                                                                            List Int ×
                                                                                                              Bool × Int),
                                                                                                          I x →
                                                                                                            ifB x.snd.fst
                                                                                                              (ifB
                                                                                                                (decide
                                                                                                                  (x.snd.snd <
                                                                                                                    (300 :
                                                                                                                      Int)))
                                                                                                                (∃ (x_7 :
                                                                                                                  List
                                                                                                                    Int),
                                                                                                                  x.fst.length =
                                                                                                                      x_7.length ∧
                                                                                                                    x.fst =
                                                                                                                        x_7 ∧
                                                                                                                      ((∀
                                                                                                                            (x :
                                                                                                                              Int),
                                                                                                                            List.Mem
                                                                                                                                x
                                                                                                                                x_7 →
                                                                                                                              (0 :
                                                                                                                                    Int) ≤
                                                                                                                                  x ∧
                                                                                                                                x ≤
                                                                                                                                  (255 :
                                                                                                                                    Int)) ∧
                                                                                                                          x_7.length ≤
                                                                                                                            most) ∧
                                                                                                                        ∀
                                                                                                                          (y :
                                                                                                                            Unit),
                                                                                                                          True →
                                                                                                                            ((-9223372036854775808 :
                                                                                                                                    Int) ≤
                                                                                                                                  x.snd.snd +
                                                                                                                                    (1 :
                                                                                                                                      Int) ∧
                                                                                                                                x.snd.snd +
                                                                                                                                    (1 :
                                                                                                                                      Int) ≤
                                                                                                                                  (9223372036854775807 :
                                                                                                                                    Int)) ∧
                                                                                                                              ∃
                                                                                                                                (y
                                                                                                                                :
                                                                                                                                List
                                                                                                                                    Int ×
                                                                                                                                  Bool ×
                                                                                                                                    Int),
                                                                                                                                I
                                                                                                                                    y ∧
                                                                                                                                  μ
                                                                                                                                        y <
                                                                                                                                      μ
                                                                                                                                        x ∧
                                                                                                                                    (hop4
                                                                                                                                              x_7).fst.length =
                                                                                                                                        y.fst.length ∧
                                                                                                                                      (hop4
                                                                                                                                              x_7).snd =
                                                                                                                                          y.snd.fst ∧
                                                                                                                                        x.snd.snd +
                                                                                                                                              (1 :
                                                                                                                                                Int) =
                                                                                                                                            y.snd.snd ∧
                                                                                                                                          (hop4
                                                                                                                                                  x_7).fst =
                                                                                                                                              y.fst ∧
                                                                                                                                            True)
                                                                                                                (∃ (y :
                                                                                                                  Unit),
                                                                                                                  True ∧
                                                                                                                    decide
                                                                                                                          (x.snd.snd =
                                                                                                                            (parse4
                                                                                                                                        x_2).fst.snd.snd.fst -
                                                                                                                              (1 :
                                                                                                                                Int)) =
                                                                                                                        true ∧
                                                                                                                      True))
                                                                                                              (∃ (y :
                                                                                                                Unit),
                                                                                                                True ∧
                                                                                                                  decide
                                                                                                                        (x.snd.snd =
                                                                                                                          (parse4
                                                                                                                                      x_2).fst.snd.snd.fst -
                                                                                                                            (1 :
                                                                                                                              Int)) =
                                                                                                                      true ∧
                                                                                                                    True)))))))))
                                          (ifB (!decide ((hop4 x_3).snd = false))
                                            (∃ (y : Unit), True ∧ false = true ∧ True)
                                            (ifB (!(hop4 x_3).snd)
                                              (∃ (y : Unit),
                                                True ∧ decide ((↑(hop4 x_3).fst.length : Int) = (0 : Int)) = true ∧ True)
                                              (∃ (x_4 : List Int),
                                                (hop4 x_3).fst.length = x_4.length ∧
                                                  (hop4 x_3).fst = x_4 ∧
                                                    (∀ (x : Int), List.Mem x x_4 → (0 : Int) ≤ x ∧ x ≤ (255 : Int)) ∧
                                                      ∀ (y : Unit),
                                                        True →
                                                          ((-9223372036854775808 : Int) ≤
                                                                (parse4 x_2).fst.snd.snd.fst - (1 : Int) ∧
                                                              (parse4 x_2).fst.snd.snd.fst - (1 : Int) ≤
                                                                (9223372036854775807 : Int)) ∧
                                                            ((0 : Int) ≤
                                                                  min (↑(hop4 x_3).fst.length : Int)
                                                                    (parse4 x_2).fst.fst ∧
                                                                min (↑(hop4 x_3).fst.length : Int) (parse4 x_2).fst.fst ≤
                                                                  (↑(hop4 x_3).fst.length : Int)) ∧
                                                              ∃ (x_5 : List Int × Int),
                                                                (min (↑(hop4 x_3).fst.length : Int)
                                                                          (parse4 x_2).fst.fst).toNat -
                                                                      (0 : Nat) =
                                                                    x_5.fst.length ∧
                                                                  (10 : Int) = x_5.snd ∧
                                                                    List.drop (0 : Nat)
                                                                          (List.take
                                                                            (min (↑(hop4 x_3).fst.length : Int)
                                                                                (parse4 x_2).fst.fst).toNat
                                                                            (hop4 x_3).fst) =
                                                                        x_5.fst ∧
                                                                      ((∀ (x : Int),
                                                                            List.Mem x x_5.fst →
                                                                              (0 : Int) ≤ x ∧ x ≤ (255 : Int)) ∧
                                                                          x_5.fst.length ≤ most ∧
                                                                            (-9223372036854775808 : Int) ≤ x_5.snd ∧
                                                                              x_5.snd ≤ (9223372036854775807 : Int)) ∧
                                                                        ∀ (y : Unit),
                                                                          True →
                                                                            ifB (!decide ((parse4 x_4).snd = (0 : Int)))
                                                                              (∃ (y : Unit), True ∧ false = true ∧ True)
                                                                              (ifB
                                                                                (!(decide
                                                                                      ((parse4 x_4).fst.fst =
                                                                                        (parse4 x_2).fst.fst) &&
                                                                                    (decide
                                                                                        ((parse4 x_4).fst.snd.fst =
                                                                                          (parse4 x_2).fst.snd.fst) &&
                                                                                      (decide
                                                                                          ((parse4 x_4).fst.snd.snd.fst =
                                                                                            (parse4 x_2).fst.snd.snd.fst -
                                                                                              (1 : Int)) &&
                                                                                        (decide
                                                                                            ((parse4
                                                                                                          x_4).fst.snd.snd.snd.fst =
                                                                                              (parse4
                                                                                                          x_2).fst.snd.snd.snd.fst) &&
                                                                                          (decide
                                                                                              ((parse4
                                                                                                              x_4).fst.snd.snd.snd.snd.fst =
                                                                                                (parse4
                                                                                                              x_2).fst.snd.snd.snd.snd.fst) &&
                                                                                            (decide
                                                                                                ((parse4
                                                                                                                  x_4).fst.snd.snd.snd.snd.snd.fst =
                                                                                                  (parse4
                                                                                                                  x_2).fst.snd.snd.snd.snd.snd.fst) &&
                                                                                              (decide
                                                                                                  ((parse4
                                                                                                                      x_4).fst.snd.snd.snd.snd.snd.snd.fst =
                                                                                                    (parse4
                                                                                                                      x_2).fst.snd.snd.snd.snd.snd.snd.fst) &&
                                                                                                (decide
                                                                                                    ((parse4
                                                                                                                          x_4).fst.snd.snd.snd.snd.snd.snd.snd.fst =
                                                                                                      (parse4
                                                                                                                          x_2).fst.snd.snd.snd.snd.snd.snd.snd.fst) &&
                                                                                                  (decide
                                                                                                      ((parse4
                                                                                                                              x_4).fst.snd.snd.snd.snd.snd.snd.snd.snd.fst =
                                                                                                        (parse4
                                                                                                                              x_2).fst.snd.snd.snd.snd.snd.snd.snd.snd.fst) &&
                                                                                                    decide
                                                                                                      ((parse4
                                                                                                                              x_4).fst.snd.snd.snd.snd.snd.snd.snd.snd.snd =
                                                                                                        (parse4
                                                                                                                              x_2).fst.snd.snd.snd.snd.snd.snd.snd.snd.snd)))))))))))
                                                                                (∃ (y : Unit),
                                                                                  True ∧ false = true ∧ True)
                                                                                (ifB
                                                                                  (!decide
                                                                                      ((↑(hop4 x_3).fst.length : Int) =
                                                                                        (parse4 x_2).fst.snd.fst))
                                                                                  (∃ (y : Unit),
                                                                                    True ∧ false = true ∧ True)
                                                                                  (((0 : Int) ≤ (parse4 x_2).fst.fst ∧
                                                                                      (parse4 x_2).fst.fst ≤
                                                                                        (↑(hop4 x_3).fst.length : Int)) ∧
                                                                                    ifB
                                                                                      (!decide
                                                                                          (fillZ x_5.fst x_5.snd =
                                                                                            List.drop (0 : Nat)
                                                                                              (List.take
                                                                                                (parse4 x_2).fst.fst.toNat
                                                                                                (hop4 x_3).fst)))
                                                                                      (∃ (y : Unit),
                                                                                        True ∧ false = true ∧ True)
                                                                                      (∃ (I : Int → Prop),
                                                                                        ∃ (μ : Int → Nat),
                                                                                          (∃ (x : Int),
                                                                                              I x ∧
                                                                                                (0 : Int) = x ∧ True) ∧
                                                                                            ∀ (x_6 : Int),
                                                                                              I x_6 →
                                                                                                ifB
                                                                                                  (decide
                                                                                                    (x_6 <
                                                                                                      (↑(hop4
                                                                                                                x_3).fst.length :
                                                                                                        Int)))
                                                                                                  (ifB
                                                                                                    (!decide
                                                                                                        (x_6 = (8 : Int)))
                                                                                                    (ifB
                                                                                                      (!decide
                                                                                                          (x_6 =
                                                                                                            (10 : Int)))
                                                                                                      (ifB
                                                                                                        (!decide
                                                                                                            (x_6 =
                                                                                                              (11 : Int)))
                                                                                                        (((0 : Int) ≤
                                                                                                              x_6 ∧
                                                                                                            x_6 <
                                                                                                              (↑(hop4
                                                                                                                        x_3).fst.length :
                                                                                                                Int)) ∧
                                                                                                          ((0 : Int) ≤
                                                                                                                x_6 ∧
                                                                                                              x_6 <
                                                                                                                (↑x.length :
                                                                                                                  Int)) ∧
                                                                                                            ifB
                                                                                                              (!decide
                                                                                                                  ((hop4
                                                                                                                            x_3).fst.getD
                                                                                                                      x_6.toNat
                                                                                                                      (0 :
                                                                                                                        Int) =
                                                                                                                    x.getD
                                                                                                                      x_6.toNat
                                                                                                                      (0 :
                                                                                                                        Int)))
                                                                                                              (∃ (y :
                                                                                                                Unit),
                                                                                                                True ∧
                                                                                                                  false =
                                                                                                                      true ∧
                                                                                                                    True)
                                                                                                              (((-9223372036854775808 :
                                                                                                                      Int) ≤
                                                                                                                    x_6 +
                                                                                                                      (1 :
                                                                                                                        Int) ∧
                                                                                                                  x_6 +
                                                                                                                      (1 :
                                                                                                                        Int) ≤
                                                                                                                    (9223372036854775807 :
                                                                                                                      Int)) ∧
                                                                                                                ∃ (y :
                                                                                                                  Int),
                                                                                                                  I y ∧
                                                                                                                    μ y <
                                                                                                                        μ
                                                                                                                          x_6 ∧
                                                                                                                      x_6 +
                                                                                                                            (1 :
                                                                                                                              Int) =
                                                                                                                          y ∧
                                                                                                                        True))
                                                                                                        (((-9223372036854775808 :
                                                                                                                Int) ≤
                                                                                                              x_6 +
                                                                                                                (1 :
                                                                                                                  Int) ∧
                                                                                                            x_6 +
                                                                                                                (1 :
                                                                                                                  Int) ≤
                                                                                                              (9223372036854775807 :
                                                                                                                Int)) ∧
                                                                                                          ∃ (y : Int),
                                                                                                            I y ∧
                                                                                                              μ y <
                                                                                                                  μ x_6 ∧
                                                                                                                x_6 +
                                                                                                                      (1 :
                                                                                                                        Int) =
                                                                                                                    y ∧
                                                                                                                  True))
                                                                                                      (((-9223372036854775808 :
                                                                                                              Int) ≤
                                                                                                            x_6 +
                                                                                                              (1 : Int) ∧
                                                                                                          x_6 +
                                                                                                              (1 : Int) ≤
                                                                                                            (9223372036854775807 :
                                                                                                              Int)) ∧
                                                                                                        ∃ (y : Int),
                                                                                                          I y ∧
                                                                                                            μ y < μ x_6 ∧
                                                                                                              x_6 +
                                                                                                                    (1 :
                                                                                                                      Int) =
                                                                                                                  y ∧
                                                                                                                True))
                                                                                                    (((-9223372036854775808 :
                                                                                                            Int) ≤
                                                                                                          x_6 +
                                                                                                            (1 : Int) ∧
                                                                                                        x_6 + (1 : Int) ≤
                                                                                                          (9223372036854775807 :
                                                                                                            Int)) ∧
                                                                                                      ∃ (y : Int),
                                                                                                        I y ∧
                                                                                                          μ y < μ x_6 ∧
                                                                                                            x_6 +
                                                                                                                  (1 :
                                                                                                                    Int) =
                                                                                                                y ∧
                                                                                                              True))
                                                                                                  (∃ (I :
                                                                                                    List Int ×
                                                                                                        Bool × Int →
                                                                                                      Prop),
                                                                                                    ∃ (μ :
                                                                                                      List Int ×
                                                                                                          Bool × Int →
                                                                                                        Nat),
                                                                                                      (∃ (x :
                                                                                                          List Int ×
                                                                                                            Bool × Int),
                                                                                                          I x ∧
                                                                                                            (hop4
                                                                                                                      x_3).fst.length =
                                                                                                                x.fst.length ∧
                                                                                                              (hop4
                                                                                                                      x_3).snd =
                                                                                                                  x.snd.fst ∧
                                                                                                                (0 :
                                                                                                                      Int) =
                                                                                                                    x.snd.snd ∧
                                                                                                                  (hop4
                                                                                                                          x_3).fst =
                                                                                                                      x.fst ∧
                                                                                                                    True) ∧
                                                                                                        ∀
                                                                                                          (x :
                                                                                                            List Int ×
                                                                                                              Bool × Int),
                                                                                                          I x →
                                                                                                            ifB x.snd.fst
                                                                                                              (ifB
                                                                                                                (decide
                                                                                                                  (x.snd.snd <
                                                                                                                    (300 :
                                                                                                                      Int)))
                                                                                                                (∃ (x_7 :
                                                                                                                  List
                                                                                                                    Int),
                                                                                                                  x.fst.length =
                                                                                                                      x_7.length ∧
                                                                                                                    x.fst =
                                                                                                                        x_7 ∧
                                                                                                                      ((∀
                                                                                                                            (x :
                                                                                                                              Int),
                                                                                                                            List.Mem
                                                                                                                                x
                                                                                                                                x_7 →
                                                                                                                              (0 :
                                                                                                                                    Int) ≤
                                                                                                                                  x ∧
                                                                                                                                x ≤
                                                                                                                                  (255 :
                                                                                                                                    Int)) ∧
                                                                                                                          x_7.length ≤
                                                                                                                            most) ∧
                                                                                                                        ∀
                                                                                                                          (y :
                                                                                                                            Unit),
                                                                                                                          True →
                                                                                                                            ((-9223372036854775808 :
                                                                                                                                    Int) ≤
                                                                                                                                  x.snd.snd +
                                                                                                                                    (1 :
                                                                                                                                      Int) ∧
                                                                                                                                x.snd.snd +
                                                                                                                                    (1 :
                                                                                                                                      Int) ≤
                                                                                                                                  (9223372036854775807 :
                                                                                                                                    Int)) ∧
                                                                                                                              ∃
                                                                                                                                (y
                                                                                                                                :
                                                                                                                                List
                                                                                                                                    Int ×
                                                                                                                                  Bool ×
                                                                                                                                    Int),
                                                                                                                                I
                                                                                                                                    y ∧
                                                                                                                                  μ
                                                                                                                                        y <
                                                                                                                                      μ
                                                                                                                                        x ∧
                                                                                                                                    (hop4
                                                                                                                                              x_7).fst.length =
                                                                                                                                        y.fst.length ∧
                                                                                                                                      (hop4
                                                                                                                                              x_7).snd =
                                                                                                                                          y.snd.fst ∧
                                                                                                                                        x.snd.snd +
                                                                                                                                              (1 :
                                                                                                                                                Int) =
                                                                                                                                            y.snd.snd ∧
                                                                                                                                          (hop4
                                                                                                                                                  x_7).fst =
                                                                                                                                              y.fst ∧
                                                                                                                                            True)
                                                                                                                (∃ (y :
                                                                                                                  Unit),
                                                                                                                  True ∧
                                                                                                                    decide
                                                                                                                          (x.snd.snd =
                                                                                                                            (parse4
                                                                                                                                        x_2).fst.snd.snd.fst -
                                                                                                                              (1 :
                                                                                                                                Int)) =
                                                                                                                        true ∧
                                                                                                                      True))
                                                                                                              (∃ (y :
                                                                                                                Unit),
                                                                                                                True ∧
                                                                                                                  decide
                                                                                                                        (x.snd.snd =
                                                                                                                          (parse4
                                                                                                                                      x_2).fst.snd.snd.fst -
                                                                                                                            (1 :
                                                                                                                              Int)) =
                                                                                                                      true ∧
                                                                                                                    True))))))))))
theorem o_hops4 : owes Try.prog (tab L20) LqL20 1 21 Try.f21 Hops4L = T_hops4 := by kernel_rfl
end Sp
