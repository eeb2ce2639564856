/- Printed by sx.py, a program of this work: what the walks of some functions owe. -/
import Derived.Test.YtcilcmbailoeaaaSpL20
import Derived.ProofKit
set_option linter.all false
set_option maxRecDepth 100000
namespace Sp
open Go Go.Proofs Sx
def T_aw20 : Prop :=
  ∀ (x : Unit),
    True →
      ∃ (x : List Int),
        (4 : Nat) = x.length ∧
          [(10 : Int), (0 : Int), (0 : Int), (1 : Int)] = x ∧
            (∀ (x_1 : Int), List.Mem x_1 x → (0 : Int) ≤ x_1 ∧ x_1 ≤ (255 : Int)) ∧
              ∀ (y : Unit),
                True →
                  (0 : Nat) < (1 : Nat) ∧
                    ∃ (x_1 : Hd × List Int),
                      (0 : Int) = x_1.fst.fst ∧
                        (0 : Int) = x_1.fst.snd.fst ∧
                          (1 : Int) = x_1.fst.snd.snd.fst ∧
                            (0 : Int) = x_1.fst.snd.snd.snd.fst ∧
                              (fromE x).fst.fst = x_1.fst.snd.snd.snd.snd.fst ∧
                                (fromE x).fst.snd.fst = x_1.fst.snd.snd.snd.snd.snd.fst ∧
                                  (fromE x).fst.snd.snd = x_1.fst.snd.snd.snd.snd.snd.snd.fst ∧
                                    (fromE x).fst.fst = x_1.fst.snd.snd.snd.snd.snd.snd.snd.fst ∧
                                      (fromE x).fst.snd.fst = x_1.fst.snd.snd.snd.snd.snd.snd.snd.snd.fst ∧
                                        (fromE x).fst.snd.snd = x_1.fst.snd.snd.snd.snd.snd.snd.snd.snd.snd ∧
                                          (1 : Nat) = x_1.snd.length ∧
                                            [(120 : Int)] = x_1.snd ∧
                                              (((((0 : Int) ≤ (hSrc x_1.fst).fst ∧
                                                        (hSrc x_1.fst).fst < (18446744073709551616 : Int)) ∧
                                                      (0 : Int) ≤ (hSrc x_1.fst).snd.fst ∧
                                                        (hSrc x_1.fst).snd.fst < (18446744073709551616 : Int)) ∧
                                                    ((0 : Int) ≤ (hDst x_1.fst).fst ∧
                                                        (hDst x_1.fst).fst < (18446744073709551616 : Int)) ∧
                                                      (0 : Int) ≤ (hDst x_1.fst).snd.fst ∧
                                                        (hDst x_1.fst).snd.fst < (18446744073709551616 : Int)) ∧
                                                  ∀ (x : Int), List.Mem x x_1.snd → (0 : Int) ≤ x ∧ x ≤ (255 : Int)) ∧
                                                ∀ (y : Unit),
                                                  True →
                                                    (0 : Nat) < (1 : Nat) ∧
                                                      ∃ (x_2 : Hd × List Int),
                                                        (0 : Int) = x_2.fst.fst ∧
                                                          (0 : Int) = x_2.fst.snd.fst ∧
                                                            (2 : Int) = x_2.fst.snd.snd.fst ∧
                                                              (0 : Int) = x_2.fst.snd.snd.snd.fst ∧
                                                                (fromE x).fst.fst = x_2.fst.snd.snd.snd.snd.fst ∧
                                                                  (fromE x).fst.snd.fst =
                                                                      x_2.fst.snd.snd.snd.snd.snd.fst ∧
                                                                    (fromE x).fst.snd.snd =
                                                                        x_2.fst.snd.snd.snd.snd.snd.snd.fst ∧
                                                                      (fromE x).fst.fst =
                                                                          x_2.fst.snd.snd.snd.snd.snd.snd.snd.fst ∧
                                                                        (fromE x).fst.snd.fst =
                                                                            x_2.fst.snd.snd.snd.snd.snd.snd.snd.snd.fst ∧
                                                                          (fromE x).fst.snd.snd =
                                                                              x_2.fst.snd.snd.snd.snd.snd.snd.snd.snd.snd ∧
                                                                            (1 : Nat) = x_2.snd.length ∧
                                                                              [(120 : Int)] = x_2.snd ∧
                                                                                (((((0 : Int) ≤ (hSrc x_2.fst).fst ∧
                                                                                          (hSrc x_2.fst).fst <
                                                                                            (18446744073709551616 :
                                                                                              Int)) ∧
                                                                                        (0 : Int) ≤
                                                                                            (hSrc x_2.fst).snd.fst ∧
                                                                                          (hSrc x_2.fst).snd.fst <
                                                                                            (18446744073709551616 :
                                                                                              Int)) ∧
                                                                                      ((0 : Int) ≤ (hDst x_2.fst).fst ∧
                                                                                          (hDst x_2.fst).fst <
                                                                                            (18446744073709551616 :
                                                                                              Int)) ∧
                                                                                        (0 : Int) ≤
                                                                                            (hDst x_2.fst).snd.fst ∧
                                                                                          (hDst x_2.fst).snd.fst <
                                                                                            (18446744073709551616 :
                                                                                              Int)) ∧
                                                                                    ∀ (x : Int),
                                                                                      List.Mem x x_2.snd →
                                                                                        (0 : Int) ≤ x ∧ x ≤ (255 : Int)) ∧
                                                                                  ∀ (y : Unit),
                                                                                    True →
                                                                                      ∃ (x_3 : List Int),
                                                                                        (build4 x_1.fst x_1.snd).length =
                                                                                            x_3.length ∧
                                                                                          build4 x_1.fst x_1.snd = x_3 ∧
                                                                                            (∀ (x : Int),
                                                                                                List.Mem x x_3 →
                                                                                                  (0 : Int) ≤ x ∧
                                                                                                    x ≤ (255 : Int)) ∧
                                                                                              ∀ (y : Unit),
                                                                                                True →
                                                                                                  ∃ (x_4 : List Int),
                                                                                                    (build4 x_1.fst
                                                                                                            x_1.snd).length =
                                                                                                        x_4.length ∧
                                                                                                      build4 x_1.fst
                                                                                                            x_1.snd =
                                                                                                          x_4 ∧
                                                                                                        ((∀ (x : Int),
                                                                                                              List.Mem x
                                                                                                                  x_4 →
                                                                                                                (0 :
                                                                                                                      Int) ≤
                                                                                                                    x ∧
                                                                                                                  x ≤
                                                                                                                    (255 :
                                                                                                                      Int)) ∧
                                                                                                            x_4.length ≤
                                                                                                              most) ∧
                                                                                                          ∀ (y : Unit),
                                                                                                            True →
                                                                                                              ∃ (x_5 :
                                                                                                                List Int),
                                                                                                                (build4
                                                                                                                        x_2.fst
                                                                                                                        x_2.snd).length =
                                                                                                                    x_5.length ∧
                                                                                                                  build4
                                                                                                                        x_2.fst
                                                                                                                        x_2.snd =
                                                                                                                      x_5 ∧
                                                                                                                    ((∀
                                                                                                                          (x :
                                                                                                                            Int),
                                                                                                                          List.Mem
                                                                                                                              x
                                                                                                                              x_5 →
                                                                                                                            (0 :
                                                                                                                                  Int) ≤
                                                                                                                                x ∧
                                                                                                                              x ≤
                                                                                                                                (255 :
                                                                                                                                  Int)) ∧
                                                                                                                        x_5.length ≤
                                                                                                                          most) ∧
                                                                                                                      ∀
                                                                                                                        (y :
                                                                                                                          Unit),
                                                                                                                        True →
                                                                                                                          ifB
                                                                                                                            (decide
                                                                                                                              ((parse4
                                                                                                                                    x_3).snd =
                                                                                                                                (0 :
                                                                                                                                  Int)))
                                                                                                                            (ifB
                                                                                                                              (decide
                                                                                                                                ((parse4
                                                                                                                                            x_3).fst.snd.snd.fst =
                                                                                                                                  (1 :
                                                                                                                                    Int)))
                                                                                                                              (ifB
                                                                                                                                (decide
                                                                                                                                    ((parse4
                                                                                                                                                          x_3).fst.snd.snd.snd.snd.snd.snd.snd.fst =
                                                                                                                                      (fromE
                                                                                                                                            x).fst.fst) &&
                                                                                                                                  (decide
                                                                                                                                      ((parse4
                                                                                                                                                              x_3).fst.snd.snd.snd.snd.snd.snd.snd.snd.fst =
                                                                                                                                        (fromE
                                                                                                                                                x).fst.snd.fst) &&
                                                                                                                                    decide
                                                                                                                                      ((parse4
                                                                                                                                                              x_3).fst.snd.snd.snd.snd.snd.snd.snd.snd.snd =
                                                                                                                                        (fromE
                                                                                                                                                x).fst.snd.snd)))
                                                                                                                                (ifB
                                                                                                                                  (!(hop4
                                                                                                                                        x_4).snd)
                                                                                                                                  (ifB
                                                                                                                                    (hop4
                                                                                                                                        x_5).snd
                                                                                                                                    (∃
                                                                                                                                      (y
                                                                                                                                      :
                                                                                                                                      Unit),
                                                                                                                                      True ∧
                                                                                                                                        decide
                                                                                                                                              ((↑(hop4
                                                                                                                                                          x_5).fst.length :
                                                                                                                                                  Int) =
                                                                                                                                                (21 :
                                                                                                                                                  Int)) =
                                                                                                                                            true ∧
                                                                                                                                          True)
                                                                                                                                    (∃
                                                                                                                                      (y
                                                                                                                                      :
                                                                                                                                      Unit),
                                                                                                                                      True ∧
                                                                                                                                        false =
                                                                                                                                            true ∧
                                                                                                                                          True))
                                                                                                                                  (∃
                                                                                                                                    (y
                                                                                                                                    :
                                                                                                                                    Unit),
                                                                                                                                    True ∧
                                                                                                                                      false =
                                                                                                                                          true ∧
                                                                                                                                        True))
                                                                                                                                (∃
                                                                                                                                  (y
                                                                                                                                  :
                                                                                                                                  Unit),
                                                                                                                                  True ∧
                                                                                                                                    false =
                                                                                                                                        true ∧
                                                                                                                                      True))
                                                                                                                              (∃
                                                                                                                                (y
                                                                                                                                :
                                                                                                                                Unit),
                                                                                                                                True ∧
                                                                                                                                  false =
                                                                                                                                      true ∧
                                                                                                                                    True))
                                                                                                                            (∃
                                                                                                                              (y
                                                                                                                              :
                                                                                                                              Unit),
                                                                                                                              True ∧
                                                                                                                                false =
                                                                                                                                    true ∧
                                                                                                                                  True)
theorem o_aw20 : owes Try.prog (tab I4) LqL20 1 64 Try.f64 Aw20 = T_aw20 := by kernel_rfl
def T_wrong4 : Prop :=
  ∀ (x : List Int × Int),
    (∀ (x_1 : Int), List.Mem x_1 x.fst → (0 : Int) ≤ x_1 ∧ x_1 ≤ (255 : Int)) →
      ∃ (x_1 : Unit),
        True ∧
          ∀ (y : Unit),
            True →
              ∃ (x_2 : List Int),
                x.fst.length = x_2.length ∧
                  x.fst = x_2 ∧
                    (∀ (x : Int), List.Mem x x_2 → (0 : Int) ≤ x ∧ x ≤ (255 : Int)) ∧
                      ∀ (y : Unit),
                        True →
                          ifB (decide ((3000 : Int) < (↑x.fst.length : Int))) (∃ (y : Unit), True ∧ true = true ∧ True)
                            (ifB (!decide ((parse4 x_2).snd = (0 : Int))) (∃ (y : Unit), True ∧ true = true ∧ True)
                              (ifB (decide ((parse4 x_2).fst.fst < (20 : Int))) (∃ (y : Unit), True ∧ true = true ∧ True)
                                (ifB (decide ((↑x.fst.length : Int) < (parse4 x_2).fst.fst))
                                  (∃ (y : Unit), True ∧ true = true ∧ True)
                                  ((((0 : Nat) + x.fst.length) * (1 : Nat) ≤ (140737488355328 : Nat) ∧
                                      (0 : Nat) + x.fst.length ≤ (140737488355328 : Nat)) ∧
                                    ((-9223372036854775808 : Int) ≤ (parse4 x_2).fst.fst * (8 : Int) ∧
                                        (parse4 x_2).fst.fst * (8 : Int) ≤ (9223372036854775807 : Int)) ∧
                                      ((0 : Int) ≤ bits BinOp.and IntKind.i64 x.snd (65535 : Int) ∧
                                          (0 : Int) < (parse4 x_2).fst.fst * (8 : Int)) ∧
                                        ((0 : Int) ≤
                                              bits BinOp.and IntKind.i64 x.snd (65535 : Int) %
                                                ((parse4 x_2).fst.fst * (8 : Int)) ∧
                                            (0 : Int) < (8 : Int)) ∧
                                          ((0 : Int) ≤
                                                bits BinOp.and IntKind.i64 x.snd (65535 : Int) %
                                                  ((parse4 x_2).fst.fst * (8 : Int)) ∧
                                              (0 : Int) < (8 : Int)) ∧
                                            ((0 : Int) ≤
                                                  bits BinOp.and IntKind.i64 x.snd (65535 : Int) %
                                                      ((parse4 x_2).fst.fst * (8 : Int)) /
                                                    (8 : Int) ∧
                                                bits BinOp.and IntKind.i64 x.snd (65535 : Int) %
                                                      ((parse4 x_2).fst.fst * (8 : Int)) /
                                                    (8 : Int) <
                                                  (↑((0 : Nat) + x.fst.length) : Int)) ∧
                                              ((0 : Int) ≤
                                                    bits BinOp.and IntKind.i64 x.snd (65535 : Int) %
                                                      ((parse4 x_2).fst.fst * (8 : Int)) ∧
                                                  (0 : Int) < (8 : Int)) ∧
                                                ((-9223372036854775808 : Int) ≤
                                                      (7 : Int) -
                                                        bits BinOp.and IntKind.i64 x.snd (65535 : Int) %
                                                            ((parse4 x_2).fst.fst * (8 : Int)) %
                                                          (8 : Int) ∧
                                                    (7 : Int) -
                                                        bits BinOp.and IntKind.i64 x.snd (65535 : Int) %
                                                            ((parse4 x_2).fst.fst * (8 : Int)) %
                                                          (8 : Int) ≤
                                                      (9223372036854775807 : Int)) ∧
                                                  (0 : Int) ≤
                                                      ((7 : Int) -
                                                          bits BinOp.and IntKind.i64 x.snd (65535 : Int) %
                                                              ((parse4 x_2).fst.fst * (8 : Int)) %
                                                            (8 : Int)) %
                                                        (18446744073709551616 : Int) ∧
                                                    ((0 : Int) ≤
                                                          bits BinOp.and IntKind.i64 x.snd (65535 : Int) %
                                                              ((parse4 x_2).fst.fst * (8 : Int)) /
                                                            (8 : Int) ∧
                                                        bits BinOp.and IntKind.i64 x.snd (65535 : Int) %
                                                              ((parse4 x_2).fst.fst * (8 : Int)) /
                                                            (8 : Int) <
                                                          (↑((0 : Nat) + x.fst.length) : Int)) ∧
                                                      ∃ (x_3 : List Int),
                                                        (0 : Nat) + x.fst.length = x_3.length ∧
                                                          ([] ++ x.fst).set
                                                                (bits BinOp.and IntKind.i64 x.snd (65535 : Int) %
                                                                      ((parse4 x_2).fst.fst * (8 : Int)) /
                                                                    (8 : Int)).toNat
                                                                (bits BinOp.xor IntKind.u8
                                                                  (([] ++ x.fst).getD
                                                                    (bits BinOp.and IntKind.i64 x.snd (65535 : Int) %
                                                                          ((parse4 x_2).fst.fst * (8 : Int)) /
                                                                        (8 : Int)).toNat
                                                                    (0 : Int))
                                                                  ((1 : Int) *
                                                                      (2 : Int) ^
                                                                        min
                                                                          (((7 : Int) -
                                                                                bits BinOp.and IntKind.i64 x.snd
                                                                                      (65535 : Int) %
                                                                                    ((parse4 x_2).fst.fst * (8 : Int)) %
                                                                                  (8 : Int)) %
                                                                              (18446744073709551616 : Int)).toNat
                                                                          (8 : Nat) %
                                                                    (256 : Int))) =
                                                              x_3 ∧
                                                            (∀ (x : Int),
                                                                List.Mem x x_3 → (0 : Int) ≤ x ∧ x ≤ (255 : Int)) ∧
                                                              ∀ (y : Unit),
                                                                True →
                                                                  ifB (!decide ((parse4 x_3).snd = (0 : Int)))
                                                                    (ifB
                                                                      (decide ((parse4 x_3).fst.fst = (0 : Int)) &&
                                                                        (decide ((parse4 x_3).fst.snd.fst = (0 : Int)) &&
                                                                          (decide
                                                                              ((parse4 x_3).fst.snd.snd.fst =
                                                                                (0 : Int)) &&
                                                                            (decide
                                                                                ((parse4 x_3).fst.snd.snd.snd.fst =
                                                                                  (0 : Int)) &&
                                                                              (decide
                                                                                  ((parse4 x_3).fst.snd.snd.snd.snd.fst =
                                                                                    (0 : Int)) &&
                                                                                (decide
                                                                                    ((parse4
                                                                                                      x_3).fst.snd.snd.snd.snd.snd.fst =
                                                                                      (0 : Int)) &&
                                                                                  (decide
                                                                                      ((parse4
                                                                                                          x_3).fst.snd.snd.snd.snd.snd.snd.fst =
                                                                                        false) &&
                                                                                    (decide
                                                                                        ((parse4
                                                                                                              x_3).fst.snd.snd.snd.snd.snd.snd.snd.fst =
                                                                                          (0 : Int)) &&
                                                                                      (decide
                                                                                          ((parse4
                                                                                                                  x_3).fst.snd.snd.snd.snd.snd.snd.snd.snd.fst =
                                                                                            (0 : Int)) &&
                                                                                        decide
                                                                                          ((parse4
                                                                                                                  x_3).fst.snd.snd.snd.snd.snd.snd.snd.snd.snd =
                                                                                            false))))))))))
                                                                      (∃ (y : Unit), True ∧ true = true ∧ True)
                                                                      (∃ (y : Unit),
                                                                        True ∧
                                                                          (!decide
                                                                                  ((parse4 x_3).fst.fst =
                                                                                    (parse4 x_2).fst.fst)) =
                                                                              true ∧
                                                                            True))
                                                                    (∃ (y : Unit),
                                                                      True ∧
                                                                        (!decide
                                                                                ((parse4 x_3).fst.fst =
                                                                                  (parse4 x_2).fst.fst)) =
                                                                            true ∧
                                                                          True)))))
theorem o_wrong4 : owes Try.prog (tab L20) LqL20 1 17 Try.f17 Wrong4L = T_wrong4 := by kernel_rfl
def T_long4 : Prop :=
  ∀ (x : List Int × List Int),
    ((∀ (x_1 : Int), List.Mem x_1 x.fst → (0 : Int) ≤ x_1 ∧ x_1 ≤ (255 : Int)) ∧
        ∀ (x_1 : Int), List.Mem x_1 x.snd → (0 : Int) ≤ x_1 ∧ x_1 ≤ (255 : Int)) →
      ∃ (x_1 : Unit),
        True ∧
          ∀ (y : Unit),
            True →
              ifB (decide ((3000 : Int) < (↑x.fst.length : Int))) (∃ (y : Unit), True ∧ true = true ∧ True)
                (ifB (decide ((100 : Int) < (↑x.snd.length : Int))) (∃ (y : Unit), True ∧ true = true ∧ True)
                  (∃ (x_2 : List Int),
                    x.fst.length = x_2.length ∧
                      x.fst = x_2 ∧
                        (∀ (x : Int), List.Mem x x_2 → (0 : Int) ≤ x ∧ x ≤ (255 : Int)) ∧
                          ∀ (y : Unit),
                            True →
                              ifB (!decide ((parse4 x_2).snd = (0 : Int)))
                                (ifB
                                  (decide ((parse4 x_2).fst.fst = (0 : Int)) &&
                                    (decide ((parse4 x_2).fst.snd.fst = (0 : Int)) &&
                                      (decide ((parse4 x_2).fst.snd.snd.fst = (0 : Int)) &&
                                        (decide ((parse4 x_2).fst.snd.snd.snd.fst = (0 : Int)) &&
                                          (decide ((parse4 x_2).fst.snd.snd.snd.snd.fst = (0 : Int)) &&
                                            (decide ((parse4 x_2).fst.snd.snd.snd.snd.snd.fst = (0 : Int)) &&
                                              (decide ((parse4 x_2).fst.snd.snd.snd.snd.snd.snd.fst = false) &&
                                                (decide ((parse4 x_2).fst.snd.snd.snd.snd.snd.snd.snd.fst = (0 : Int)) &&
                                                  (decide
                                                      ((parse4 x_2).fst.snd.snd.snd.snd.snd.snd.snd.snd.fst =
                                                        (0 : Int)) &&
                                                    decide
                                                      ((parse4 x_2).fst.snd.snd.snd.snd.snd.snd.snd.snd.snd =
                                                        false))))))))))
                                  (ifB (decide ((1 : Int) ≤ (parse4 x_2).snd))
                                    (∃ (y : Unit), True ∧ decide ((parse4 x_2).snd ≤ (6 : Int)) = true ∧ True)
                                    (∃ (y : Unit), True ∧ false = true ∧ True))
                                  (∃ (y : Unit), True ∧ false = true ∧ True))
                                (ifB (decide ((parse4 x_2).fst.fst < (20 : Int)))
                                  (∃ (y : Unit), True ∧ false = true ∧ True)
                                  (ifB (decide ((parse4 x_2).fst.snd.fst < (parse4 x_2).fst.fst))
                                    (∃ (y : Unit), True ∧ false = true ∧ True)
                                    (ifB (decide ((↑x.fst.length : Int) < (parse4 x_2).fst.snd.fst))
                                      (∃ (y : Unit), True ∧ false = true ∧ True)
                                      (ifB (decide ((parse4 x_2).fst.snd.snd.fst < (0 : Int)))
                                        (∃ (y : Unit), True ∧ false = true ∧ True)
                                        (ifB (decide ((255 : Int) < (parse4 x_2).fst.snd.snd.fst))
                                          (∃ (y : Unit), True ∧ false = true ∧ True)
                                          (((0 : Int) ≤ (parse4 x_2).fst.snd.fst ∧
                                              (parse4 x_2).fst.snd.fst ≤ (↑x.fst.length : Int)) ∧
                                            (((0 : Nat) +
                                                      (List.drop (0 : Nat)
                                                          (List.take (parse4 x_2).fst.snd.fst.toNat x.fst)).length) *
                                                    (1 : Nat) ≤
                                                  (140737488355328 : Nat) ∧
                                                (0 : Nat) +
                                                    (List.drop (0 : Nat)
                                                        (List.take (parse4 x_2).fst.snd.fst.toNat x.fst)).length ≤
                                                  (140737488355328 : Nat)) ∧
                                              (((0 : Nat) +
                                                          (List.drop (0 : Nat)
                                                              (List.take (parse4 x_2).fst.snd.fst.toNat x.fst)).length +
                                                        x.snd.length) *
                                                      (1 : Nat) ≤
                                                    (140737488355328 : Nat) ∧
                                                  (0 : Nat) +
                                                        (List.drop (0 : Nat)
                                                            (List.take (parse4 x_2).fst.snd.fst.toNat x.fst)).length +
                                                      x.snd.length ≤
                                                    (140737488355328 : Nat)) ∧
                                                ∃ (x_3 : List Int),
                                                  (0 : Nat) +
                                                          (List.drop (0 : Nat)
                                                              (List.take (parse4 x_2).fst.snd.fst.toNat x.fst)).length +
                                                        x.snd.length =
                                                      x_3.length ∧
                                                    [] ++
                                                            List.drop (0 : Nat)
                                                              (List.take (parse4 x_2).fst.snd.fst.toNat x.fst) ++
                                                          x.snd =
                                                        x_3 ∧
                                                      (∀ (x : Int), List.Mem x x_3 → (0 : Int) ≤ x ∧ x ≤ (255 : Int)) ∧
                                                        ∀ (y : Unit),
                                                          True →
                                                            ((-9223372036854775808 : Int) ≤
                                                                  (parse4 x_2).fst.snd.fst - (1 : Int) ∧
                                                                (parse4 x_2).fst.snd.fst - (1 : Int) ≤
                                                                  (9223372036854775807 : Int)) ∧
                                                              ((0 : Int) ≤ (parse4 x_2).fst.snd.fst - (1 : Int) ∧
                                                                  (parse4 x_2).fst.snd.fst - (1 : Int) ≤
                                                                    (↑x.fst.length : Int)) ∧
                                                                ∃ (x_4 : List Int),
                                                                  ((parse4 x_2).fst.snd.fst - (1 : Int)).toNat -
                                                                        (0 : Nat) =
                                                                      x_4.length ∧
                                                                    List.drop (0 : Nat)
                                                                          (List.take
                                                                            ((parse4 x_2).fst.snd.fst - (1 : Int)).toNat
                                                                            x.fst) =
                                                                        x_4 ∧
                                                                      (∀ (x : Int),
                                                                          List.Mem x x_4 →
                                                                            (0 : Int) ≤ x ∧ x ≤ (255 : Int)) ∧
                                                                        ∀ (y : Unit),
                                                                          True →
                                                                            ifB (decide ((parse4 x_3).snd = (0 : Int)))
                                                                              (ifB
                                                                                (decide
                                                                                    ((parse4 x_3).fst.fst =
                                                                                      (parse4 x_2).fst.fst) &&
                                                                                  (decide
                                                                                      ((parse4 x_3).fst.snd.fst =
                                                                                        (parse4 x_2).fst.snd.fst) &&
                                                                                    (decide
                                                                                        ((parse4 x_3).fst.snd.snd.fst =
                                                                                          (parse4 x_2).fst.snd.snd.fst) &&
                                                                                      (decide
                                                                                          ((parse4
                                                                                                        x_3).fst.snd.snd.snd.fst =
                                                                                            (parse4
                                                                                                        x_2).fst.snd.snd.snd.fst) &&
                                                                                        (decide
                                                                                            ((parse4
                                                                                                            x_3).fst.snd.snd.snd.snd.fst =
                                                                                              (parse4
                                                                                                            x_2).fst.snd.snd.snd.snd.fst) &&
                                                                                          (decide
                                                                                              ((parse4
                                                                                                                x_3).fst.snd.snd.snd.snd.snd.fst =
                                                                                                (parse4
                                                                                                                x_2).fst.snd.snd.snd.snd.snd.fst) &&
                                                                                            (decide
                                                                                                ((parse4
                                                                                                                    x_3).fst.snd.snd.snd.snd.snd.snd.fst =
                                                                                                  (parse4
                                                                                                                    x_2).fst.snd.snd.snd.snd.snd.snd.fst) &&
                                                                                              (decide
                                                                                                  ((parse4
                                                                                                                        x_3).fst.snd.snd.snd.snd.snd.snd.snd.fst =
                                                                                                    (parse4
                                                                                                                        x_2).fst.snd.snd.snd.snd.snd.snd.snd.fst) &&
                                                                                                (decide
                                                                                                    ((parse4
                                                                                                                            x_3).fst.snd.snd.snd.snd.snd.snd.snd.snd.fst =
                                                                                                      (parse4
                                                                                                                            x_2).fst.snd.snd.snd.snd.snd.snd.snd.snd.fst) &&
                                                                                                  decide
                                                                                                    ((parse4
                                                                                                                            x_3).fst.snd.snd.snd.snd.snd.snd.snd.snd.snd =
                                                                                                      (parse4
                                                                                                                            x_2).fst.snd.snd.snd.snd.snd.snd.snd.snd.snd))))))))))
                                                                                (ifB
                                                                                  (decide ((parse4 x_4).snd = (4 : Int)))
                                                                                  (∃ (y : Unit),
                                                                                    True ∧ true = true ∧ True)
                                                                                  (ifB
                                                                                    (decide
                                                                                      ((parse4 x_4).snd = (1 : Int)))
                                                                                    (ifB
                                                                                      (decide
                                                                                        ((parse4 x_2).fst.snd.fst =
                                                                                          (20 : Int)))
                                                                                      (∃ (y : Unit),
                                                                                        True ∧ true = true ∧ True)
                                                                                      (ifB
                                                                                        (decide
                                                                                          ((parse4 x_4).snd = (3 : Int)))
                                                                                        (∃ (y : Unit),
                                                                                          True ∧
                                                                                            decide
                                                                                                  ((parse4
                                                                                                            x_2).fst.snd.fst =
                                                                                                    (parse4
                                                                                                          x_2).fst.fst) =
                                                                                                true ∧
                                                                                              True)
                                                                                        (∃ (y : Unit),
                                                                                          True ∧ false = true ∧ True)))
                                                                                    (ifB
                                                                                      (decide
                                                                                        ((parse4 x_4).snd = (3 : Int)))
                                                                                      (∃ (y : Unit),
                                                                                        True ∧
                                                                                          decide
                                                                                                ((parse4
                                                                                                          x_2).fst.snd.fst =
                                                                                                  (parse4 x_2).fst.fst) =
                                                                                              true ∧
                                                                                            True)
                                                                                      (∃ (y : Unit),
                                                                                        True ∧ false = true ∧ True))))
                                                                                (∃ (y : Unit),
                                                                                  True ∧ false = true ∧ True))
                                                                              (∃ (y : Unit),
                                                                                True ∧ false = true ∧ True)))))))))
theorem o_long4 : owes Try.prog (tab L20) LqL20 1 18 Try.f18 Long4L = T_long4 := by kernel_rfl
end Sp
