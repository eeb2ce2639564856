/- Printed by sx.py, a program of this work: what the walks of some functions owe. -/
import Derived.Test.YthnhbnakpmkppaaSpK
import Derived.ProofKit
set_option linter.all false
set_option maxRecDepth 100000
namespace Sp
open Go Go.Proofs Sx
def T_srows : Prop :=
 ∀ (x : List Int × Int),
 okK x →
 ifB (decide (x.snd = (0 : Int)))
 ((∃ (y : Unit), rowsK x = (1 : Nat) ∧ (0 : Nat) = (1 : Nat) ∧ False) ∨
 (∃ (y : Unit), rowsK x = (2 : Nat) ∧ (0 : Nat) = (2 : Nat) ∧ False) ∨
 (∃ (y : Unit), rowsK x = (3 : Nat) ∧ (0 : Nat) = (3 : Nat) ∧ False) ∨
 ∃ (y : Unit), rowsK x = (4 : Nat) ∧ (0 : Nat) = (4 : Nat) ∧ False)
 (∃ (I : Int → Prop),
 ∃ (μ : Int → Nat),
 ∃ (I_1 : Int × LI → Prop),
 ∃ (μ_1 : Int × LI → Nat),
 ∃ (I_2 : Int × LI × LI → Prop),
 ∃ (μ_2 : Int × LI × LI → Nat),
 ∃ (I_3 : Int × LI × LI × LI → Prop),
 ∃ (μ_3 : Int × LI × LI × LI → Nat),
 ∃ (I_4 : Int × LI × LI × LI × LI → Prop),
 ∃ (μ_4 : Int × LI × LI × LI × LI → Nat),
 ((∃ (y : Int), I y ∧ True ∧ (0 : Int) = y ∧ True) ∨
 (∃ (y : Int × LI), I_1 y ∧ True ∧ (0 : Int) = y.fst ∧ (0 : Nat) = (1 : Nat) ∧ False) ∨
 (∃ (y : Int × LI × LI),
 I_2 y ∧ True ∧ (0 : Int) = y.fst ∧ (0 : Nat) = (2 : Nat) ∧ False) ∨
 (∃ (y : Int × LI × LI × LI),
 I_3 y ∧ True ∧ (0 : Int) = y.fst ∧ (0 : Nat) = (3 : Nat) ∧ False) ∨
 (∃ (y : Int × LI × LI × LI × LI),
 I_4 y ∧ True ∧ (0 : Int) = y.fst ∧ (0 : Nat) = (4 : Nat) ∧ False) ∨
 False) ∧
 (∀ (x_1 : Int),
 I x_1 →
 ifB (decide (x_1 < (↑x.fst.length : Int)))
 (((0 : Int) ≤ x_1 ∧ x_1 < (↑x.fst.length : Int)) ∧
 ((0 : Int) ≤ x_1 ∧ (0 : Int) < x.snd) ∧
 ifB (decide (x_1 % x.snd = (0 : Int)))
 (((24 : Nat) ≤ (140737488355328 : Nat) ∧
 (1 : Nat) ≤ (140737488355328 : Nat)) ∧
 ((-9223372036854775808 : Int) ≤ (0 : Int) ∧
 (0 : Int) ≤ (9223372036854775807 : Int)) ∧
 ((0 : Int) ≤ (0 : Int) ∧ (0 : Int) < (1 : Int)) ∧
 ([x.fst.getD x_1.toNat (0 : Int)].length * (8 : Nat) ≤
 (140737488355328 : Nat) ∧
 [x.fst.getD x_1.toNat (0 : Int)].length ≤ (140737488355328 : Nat)) ∧
 ((-9223372036854775808 : Int) ≤ x_1 + (1 : Int) ∧
 x_1 + (1 : Int) ≤ (9223372036854775807 : Int)) ∧
 ((∃ (y : Int), I y ∧ μ y < μ x_1 ∧ x_1 + (1 : Int) = y ∧ False) ∨
 (∃ (y : Int × LI),
 I_1 y ∧
 μ_1 y < μ x_1 ∧
 x_1 + (1 : Int) = y.fst ∧
 (1 : Nat) = (1 : Nat) ∧
 [x.fst.getD x_1.toNat (0 : Int)].length =
 List.length y.snd ∧
 [x.fst.getD x_1.toNat (0 : Int)] = y.snd ∧ True) ∨
 (∃ (y : Int × LI × LI),
 I_2 y ∧
 μ_2 y < μ x_1 ∧
 x_1 + (1 : Int) = y.fst ∧
 (1 : Nat) = (2 : Nat) ∧ False) ∨
 (∃ (y : Int × LI × LI × LI),
 I_3 y ∧
 μ_3 y < μ x_1 ∧
 x_1 + (1 : Int) = y.fst ∧
 (1 : Nat) = (3 : Nat) ∧ False) ∨
 (∃ (y : Int × LI × LI × LI × LI),
 I_4 y ∧
 μ_4 y < μ x_1 ∧
 x_1 + (1 : Int) = y.fst ∧
 (1 : Nat) = (4 : Nat) ∧ False) ∨
 False))
 (((-9223372036854775808 : Int) ≤ (-1 : Int) ∧
 (-1 : Int) ≤ (9223372036854775807 : Int)) ∧
 False))
 ((∃ (y : Unit), rowsK x = (1 : Nat) ∧ (0 : Nat) = (1 : Nat) ∧ False) ∨
 (∃ (y : Unit), rowsK x = (2 : Nat) ∧ (0 : Nat) = (2 : Nat) ∧ False) ∨
 (∃ (y : Unit), rowsK x = (3 : Nat) ∧ (0 : Nat) = (3 : Nat) ∧ False) ∨
 ∃ (y : Unit), rowsK x = (4 : Nat) ∧ (0 : Nat) = (4 : Nat) ∧ False)) ∧
 (∀ (x_1 : Int × LI),
 I_1 x_1 →
 ifB (decide (x_1.fst < (↑x.fst.length : Int)))
 (((0 : Int) ≤ x_1.fst ∧ x_1.fst < (↑x.fst.length : Int)) ∧
 ((0 : Int) ≤ x_1.fst ∧ (0 : Int) < x.snd) ∧
 ifB (decide (x_1.fst % x.snd = (0 : Int)))
 (((48 : Nat) ≤ (140737488355328 : Nat) ∧
 (2 : Nat) ≤ (140737488355328 : Nat)) ∧
 ((-9223372036854775808 : Int) ≤ (1 : Int) ∧
 (1 : Int) ≤ (9223372036854775807 : Int)) ∧
 ((0 : Int) ≤ (1 : Int) ∧ (1 : Int) < (2 : Int)) ∧
 ([x.fst.getD x_1.fst.toNat (0 : Int)].length * (8 : Nat) ≤
 (140737488355328 : Nat) ∧
 [x.fst.getD x_1.fst.toNat (0 : Int)].length ≤
 (140737488355328 : Nat)) ∧
 ((-9223372036854775808 : Int) ≤ x_1.fst + (1 : Int) ∧
 x_1.fst + (1 : Int) ≤ (9223372036854775807 : Int)) ∧
 ((∃ (y : Int),
 I y ∧ μ y < μ_1 x_1 ∧ x_1.fst + (1 : Int) = y ∧ False) ∨
 (∃ (y : Int × LI),
 I_1 y ∧
 μ_1 y < μ_1 x_1 ∧
 x_1.fst + (1 : Int) = y.fst ∧
 (2 : Nat) = (1 : Nat) ∧ False) ∨
 (∃ (y : Int × LI × LI),
 I_2 y ∧
 μ_2 y < μ_1 x_1 ∧
 x_1.fst + (1 : Int) = y.fst ∧
 (2 : Nat) = (2 : Nat) ∧
 List.length x_1.snd = List.length y.snd.fst ∧
 [x.fst.getD x_1.fst.toNat (0 : Int)].length =
 List.length y.snd.snd ∧
 x_1.snd = y.snd.fst ∧
 [x.fst.getD x_1.fst.toNat (0 : Int)] =
 y.snd.snd ∧
 True) ∨
 (∃ (y : Int × LI × LI × LI),
 I_3 y ∧
 μ_3 y < μ_1 x_1 ∧
 x_1.fst + (1 : Int) = y.fst ∧
 (2 : Nat) = (3 : Nat) ∧ False) ∨
 (∃ (y : Int × LI × LI × LI × LI),
 I_4 y ∧
 μ_4 y < μ_1 x_1 ∧
 x_1.fst + (1 : Int) = y.fst ∧
 (2 : Nat) = (4 : Nat) ∧ False) ∨
 False))
 (((-9223372036854775808 : Int) ≤ (0 : Int) ∧
 (0 : Int) ≤ (9223372036854775807 : Int)) ∧
 ((0 : Int) ≤ (0 : Int) ∧ (0 : Int) < (1 : Int)) ∧
 ((List.length x_1.snd + [x.fst.getD x_1.fst.toNat (0 : Int)].length) *
 (8 : Nat) ≤
 (140737488355328 : Nat) ∧
 List.length x_1.snd + [x.fst.getD x_1.fst.toNat (0 : Int)].length ≤
 (140737488355328 : Nat)) ∧
 ((-9223372036854775808 : Int) ≤ x_1.fst + (1 : Int) ∧
 x_1.fst + (1 : Int) ≤ (9223372036854775807 : Int)) ∧
 ((∃ (y : Int),
 I y ∧ μ y < μ_1 x_1 ∧ x_1.fst + (1 : Int) = y ∧ False) ∨
 (∃ (y : Int × LI),
 I_1 y ∧
 μ_1 y < μ_1 x_1 ∧
 x_1.fst + (1 : Int) = y.fst ∧
 (1 : Nat) = (1 : Nat) ∧
 List.length x_1.snd +
 [x.fst.getD x_1.fst.toNat (0 : Int)].length =
 List.length y.snd ∧
 x_1.snd ++ [x.fst.getD x_1.fst.toNat (0 : Int)] =
 y.snd ∧
 True) ∨
 (∃ (y : Int × LI × LI),
 I_2 y ∧
 μ_2 y < μ_1 x_1 ∧
 x_1.fst + (1 : Int) = y.fst ∧
 (1 : Nat) = (2 : Nat) ∧ False) ∨
 (∃ (y : Int × LI × LI × LI),
 I_3 y ∧
 μ_3 y < μ_1 x_1 ∧
 x_1.fst + (1 : Int) = y.fst ∧
 (1 : Nat) = (3 : Nat) ∧ False) ∨
 (∃ (y : Int × LI × LI × LI × LI),
 I_4 y ∧
 μ_4 y < μ_1 x_1 ∧
 x_1.fst + (1 : Int) = y.fst ∧
 (1 : Nat) = (4 : Nat) ∧ False) ∨
 False)))
 ((∃ (y : Unit),
 rowsK x = (1 : Nat) ∧
 (1 : Nat) = (1 : Nat) ∧
 List.length x_1.snd = (rowK x (0 : Nat)).length ∧
 x_1.snd = rowK x (0 : Nat) ∧ True) ∨
 (∃ (y : Unit), rowsK x = (2 : Nat) ∧ (1 : Nat) = (2 : Nat) ∧ False) ∨
 (∃ (y : Unit), rowsK x = (3 : Nat) ∧ (1 : Nat) = (3 : Nat) ∧ False) ∨
 ∃ (y : Unit), rowsK x = (4 : Nat) ∧ (1 : Nat) = (4 : Nat) ∧ False)) ∧
 (∀ (x_1 : Int × LI × LI),
 I_2 x_1 →
 ifB (decide (x_1.fst < (↑x.fst.length : Int)))
 (((0 : Int) ≤ x_1.fst ∧ x_1.fst < (↑x.fst.length : Int)) ∧
 ((0 : Int) ≤ x_1.fst ∧ (0 : Int) < x.snd) ∧
 ifB (decide (x_1.fst % x.snd = (0 : Int)))
 (((72 : Nat) ≤ (140737488355328 : Nat) ∧
 (3 : Nat) ≤ (140737488355328 : Nat)) ∧
 ((-9223372036854775808 : Int) ≤ (2 : Int) ∧
 (2 : Int) ≤ (9223372036854775807 : Int)) ∧
 ((0 : Int) ≤ (2 : Int) ∧ (2 : Int) < (3 : Int)) ∧
 ([x.fst.getD x_1.fst.toNat (0 : Int)].length * (8 : Nat) ≤
 (140737488355328 : Nat) ∧
 [x.fst.getD x_1.fst.toNat (0 : Int)].length ≤
 (140737488355328 : Nat)) ∧
 ((-9223372036854775808 : Int) ≤ x_1.fst + (1 : Int) ∧
 x_1.fst + (1 : Int) ≤ (9223372036854775807 : Int)) ∧
 ((∃ (y : Int),
 I y ∧ μ y < μ_2 x_1 ∧ x_1.fst + (1 : Int) = y ∧ False) ∨
 (∃ (y : Int × LI),
 I_1 y ∧
 μ_1 y < μ_2 x_1 ∧
 x_1.fst + (1 : Int) = y.fst ∧
 (3 : Nat) = (1 : Nat) ∧ False) ∨
 (∃ (y : Int × LI × LI),
 I_2 y ∧
 μ_2 y < μ_2 x_1 ∧
 x_1.fst + (1 : Int) = y.fst ∧
 (3 : Nat) = (2 : Nat) ∧ False) ∨
 (∃ (y : Int × LI × LI × LI),
 I_3 y ∧
 μ_3 y < μ_2 x_1 ∧
 x_1.fst + (1 : Int) = y.fst ∧
 (3 : Nat) = (3 : Nat) ∧
 List.length x_1.snd.fst =
 List.length y.snd.fst ∧
 List.length x_1.snd.snd =
 List.length y.snd.snd.fst ∧
 [x.fst.getD x_1.fst.toNat
 (0 : Int)].length =
 List.length y.snd.snd.snd ∧
 x_1.snd.fst = y.snd.fst ∧
 x_1.snd.snd = y.snd.snd.fst ∧
 [x.fst.getD x_1.fst.toNat
 (0 : Int)] =
 y.snd.snd.snd ∧
 True) ∨
 (∃ (y : Int × LI × LI × LI × LI),
 I_4 y ∧
 μ_4 y < μ_2 x_1 ∧
 x_1.fst + (1 : Int) = y.fst ∧
 (3 : Nat) = (4 : Nat) ∧ False) ∨
 False))
 (((-9223372036854775808 : Int) ≤ (1 : Int) ∧
 (1 : Int) ≤ (9223372036854775807 : Int)) ∧
 ((0 : Int) ≤ (1 : Int) ∧ (1 : Int) < (2 : Int)) ∧
 ((List.length x_1.snd.snd +
 [x.fst.getD x_1.fst.toNat (0 : Int)].length) *
 (8 : Nat) ≤
 (140737488355328 : Nat) ∧
 List.length x_1.snd.snd +
 [x.fst.getD x_1.fst.toNat (0 : Int)].length ≤
 (140737488355328 : Nat)) ∧
 ((-9223372036854775808 : Int) ≤ x_1.fst + (1 : Int) ∧
 x_1.fst + (1 : Int) ≤ (9223372036854775807 : Int)) ∧
 ((∃ (y : Int),
 I y ∧ μ y < μ_2 x_1 ∧ x_1.fst + (1 : Int) = y ∧ False) ∨
 (∃ (y : Int × LI),
 I_1 y ∧
 μ_1 y < μ_2 x_1 ∧
 x_1.fst + (1 : Int) = y.fst ∧
 (2 : Nat) = (1 : Nat) ∧ False) ∨
 (∃ (y : Int × LI × LI),
 I_2 y ∧
 μ_2 y < μ_2 x_1 ∧
 x_1.fst + (1 : Int) = y.fst ∧
 (2 : Nat) = (2 : Nat) ∧
 List.length x_1.snd.fst = List.length y.snd.fst ∧
 List.length x_1.snd.snd +
 [x.fst.getD x_1.fst.toNat
 (0 : Int)].length =
 List.length y.snd.snd ∧
 x_1.snd.fst = y.snd.fst ∧
 x_1.snd.snd ++
 [x.fst.getD x_1.fst.toNat (0 : Int)] =
 y.snd.snd ∧
 True) ∨
 (∃ (y : Int × LI × LI × LI),
 I_3 y ∧
 μ_3 y < μ_2 x_1 ∧
 x_1.fst + (1 : Int) = y.fst ∧
 (2 : Nat) = (3 : Nat) ∧ False) ∨
 (∃ (y : Int × LI × LI × LI × LI),
 I_4 y ∧
 μ_4 y < μ_2 x_1 ∧
 x_1.fst + (1 : Int) = y.fst ∧
 (2 : Nat) = (4 : Nat) ∧ False) ∨
 False)))
 ((∃ (y : Unit), rowsK x = (1 : Nat) ∧ (2 : Nat) = (1 : Nat) ∧ False) ∨
 (∃ (y : Unit),
 rowsK x = (2 : Nat) ∧
 (2 : Nat) = (2 : Nat) ∧
 List.length x_1.snd.fst = (rowK x (0 : Nat)).length ∧
 List.length x_1.snd.snd = (rowK x (1 : Nat)).length ∧
 x_1.snd.fst = rowK x (0 : Nat) ∧
 x_1.snd.snd = rowK x (1 : Nat) ∧ True) ∨
 (∃ (y : Unit), rowsK x = (3 : Nat) ∧ (2 : Nat) = (3 : Nat) ∧ False) ∨
 ∃ (y : Unit), rowsK x = (4 : Nat) ∧ (2 : Nat) = (4 : Nat) ∧ False)) ∧
 (∀ (x_1 : Int × LI × LI × LI),
 I_3 x_1 →
 ifB (decide (x_1.fst < (↑x.fst.length : Int)))
 (((0 : Int) ≤ x_1.fst ∧ x_1.fst < (↑x.fst.length : Int)) ∧
 ((0 : Int) ≤ x_1.fst ∧ (0 : Int) < x.snd) ∧
 ifB (decide (x_1.fst % x.snd = (0 : Int)))
 (((96 : Nat) ≤ (140737488355328 : Nat) ∧
 (4 : Nat) ≤ (140737488355328 : Nat)) ∧
 ((-9223372036854775808 : Int) ≤ (3 : Int) ∧
 (3 : Int) ≤ (9223372036854775807 : Int)) ∧
 ((0 : Int) ≤ (3 : Int) ∧ (3 : Int) < (4 : Int)) ∧
 ([x.fst.getD x_1.fst.toNat (0 : Int)].length * (8 : Nat) ≤
 (140737488355328 : Nat) ∧
 [x.fst.getD x_1.fst.toNat (0 : Int)].length ≤
 (140737488355328 : Nat)) ∧
 ((-9223372036854775808 : Int) ≤ x_1.fst + (1 : Int) ∧
 x_1.fst + (1 : Int) ≤ (9223372036854775807 : Int)) ∧
 ((∃ (y : Int),
 I y ∧ μ y < μ_3 x_1 ∧ x_1.fst + (1 : Int) = y ∧ False) ∨
 (∃ (y : Int × LI),
 I_1 y ∧
 μ_1 y < μ_3 x_1 ∧
 x_1.fst + (1 : Int) = y.fst ∧
 (4 : Nat) = (1 : Nat) ∧ False) ∨
 (∃ (y : Int × LI × LI),
 I_2 y ∧
 μ_2 y < μ_3 x_1 ∧
 x_1.fst + (1 : Int) = y.fst ∧
 (4 : Nat) = (2 : Nat) ∧ False) ∨
 (∃ (y : Int × LI × LI × LI),
 I_3 y ∧
 μ_3 y < μ_3 x_1 ∧
 x_1.fst + (1 : Int) = y.fst ∧
 (4 : Nat) = (3 : Nat) ∧ False) ∨
 (∃ (y : Int × LI × LI × LI × LI),
 I_4 y ∧
 μ_4 y < μ_3 x_1 ∧
 x_1.fst + (1 : Int) = y.fst ∧
 (4 : Nat) = (4 : Nat) ∧
 List.length x_1.snd.fst =
 List.length y.snd.fst ∧
 List.length x_1.snd.snd.fst =
 List.length y.snd.snd.fst ∧
 List.length x_1.snd.snd.snd =
 List.length y.snd.snd.snd.fst ∧
 [x.fst.getD x_1.fst.toNat
 (0 : Int)].length =
 List.length y.snd.snd.snd.snd ∧
 x_1.snd.fst = y.snd.fst ∧
 x_1.snd.snd.fst =
 y.snd.snd.fst ∧
 x_1.snd.snd.snd =
 y.snd.snd.snd.fst ∧
 [x.fst.getD x_1.fst.toNat
 (0 : Int)] =
 y.snd.snd.snd.snd ∧
 True) ∨
 False))
 (((-9223372036854775808 : Int) ≤ (2 : Int) ∧
 (2 : Int) ≤ (9223372036854775807 : Int)) ∧
 ((0 : Int) ≤ (2 : Int) ∧ (2 : Int) < (3 : Int)) ∧
 ((List.length x_1.snd.snd.snd +
 [x.fst.getD x_1.fst.toNat (0 : Int)].length) *
 (8 : Nat) ≤
 (140737488355328 : Nat) ∧
 List.length x_1.snd.snd.snd +
 [x.fst.getD x_1.fst.toNat (0 : Int)].length ≤
 (140737488355328 : Nat)) ∧
 ((-9223372036854775808 : Int) ≤ x_1.fst + (1 : Int) ∧
 x_1.fst + (1 : Int) ≤ (9223372036854775807 : Int)) ∧
 ((∃ (y : Int),
 I y ∧ μ y < μ_3 x_1 ∧ x_1.fst + (1 : Int) = y ∧ False) ∨
 (∃ (y : Int × LI),
 I_1 y ∧
 μ_1 y < μ_3 x_1 ∧
 x_1.fst + (1 : Int) = y.fst ∧
 (3 : Nat) = (1 : Nat) ∧ False) ∨
 (∃ (y : Int × LI × LI),
 I_2 y ∧
 μ_2 y < μ_3 x_1 ∧
 x_1.fst + (1 : Int) = y.fst ∧
 (3 : Nat) = (2 : Nat) ∧ False) ∨
 (∃ (y : Int × LI × LI × LI),
 I_3 y ∧
 μ_3 y < μ_3 x_1 ∧
 x_1.fst + (1 : Int) = y.fst ∧
 (3 : Nat) = (3 : Nat) ∧
 List.length x_1.snd.fst =
 List.length y.snd.fst ∧
 List.length x_1.snd.snd.fst =
 List.length y.snd.snd.fst ∧
 List.length x_1.snd.snd.snd +
 [x.fst.getD x_1.fst.toNat
 (0 : Int)].length =
 List.length y.snd.snd.snd ∧
 x_1.snd.fst = y.snd.fst ∧
 x_1.snd.snd.fst = y.snd.snd.fst ∧
 x_1.snd.snd.snd ++
 [x.fst.getD x_1.fst.toNat
 (0 : Int)] =
 y.snd.snd.snd ∧
 True) ∨
 (∃ (y : Int × LI × LI × LI × LI),
 I_4 y ∧
 μ_4 y < μ_3 x_1 ∧
 x_1.fst + (1 : Int) = y.fst ∧
 (3 : Nat) = (4 : Nat) ∧ False) ∨
 False)))
 ((∃ (y : Unit), rowsK x = (1 : Nat) ∧ (3 : Nat) = (1 : Nat) ∧ False) ∨
 (∃ (y : Unit), rowsK x = (2 : Nat) ∧ (3 : Nat) = (2 : Nat) ∧ False) ∨
 (∃ (y : Unit),
 rowsK x = (3 : Nat) ∧
 (3 : Nat) = (3 : Nat) ∧
 List.length x_1.snd.fst = (rowK x (0 : Nat)).length ∧
 List.length x_1.snd.snd.fst = (rowK x (1 : Nat)).length ∧
 List.length x_1.snd.snd.snd = (rowK x (2 : Nat)).length ∧
 x_1.snd.fst = rowK x (0 : Nat) ∧
 x_1.snd.snd.fst = rowK x (1 : Nat) ∧
 x_1.snd.snd.snd = rowK x (2 : Nat) ∧ True) ∨
 ∃ (y : Unit), rowsK x = (4 : Nat) ∧ (3 : Nat) = (4 : Nat) ∧ False)) ∧
 (∀ (x_1 : Int × LI × LI × LI × LI),
 I_4 x_1 →
 ifB (decide (x_1.fst < (↑x.fst.length : Int)))
 (((0 : Int) ≤ x_1.fst ∧ x_1.fst < (↑x.fst.length : Int)) ∧
 ((0 : Int) ≤ x_1.fst ∧ (0 : Int) < x.snd) ∧
 ifB (decide (x_1.fst % x.snd = (0 : Int)))
 (((120 : Nat) ≤ (140737488355328 : Nat) ∧
 (5 : Nat) ≤ (140737488355328 : Nat)) ∧
 ((-9223372036854775808 : Int) ≤ (4 : Int) ∧
 (4 : Int) ≤ (9223372036854775807 : Int)) ∧
 ((0 : Int) ≤ (4 : Int) ∧ (4 : Int) < (5 : Int)) ∧
 ([x.fst.getD x_1.fst.toNat (0 : Int)].length * (8 : Nat) ≤
 (140737488355328 : Nat) ∧
 [x.fst.getD x_1.fst.toNat (0 : Int)].length ≤
 (140737488355328 : Nat)) ∧
 ((-9223372036854775808 : Int) ≤ x_1.fst + (1 : Int) ∧
 x_1.fst + (1 : Int) ≤ (9223372036854775807 : Int)) ∧
 ((∃ (y : Int),
 I y ∧ μ y < μ_4 x_1 ∧ x_1.fst + (1 : Int) = y ∧ False) ∨
 (∃ (y : Int × LI),
 I_1 y ∧
 μ_1 y < μ_4 x_1 ∧
 x_1.fst + (1 : Int) = y.fst ∧
 (5 : Nat) = (1 : Nat) ∧ False) ∨
 (∃ (y : Int × LI × LI),
 I_2 y ∧
 μ_2 y < μ_4 x_1 ∧
 x_1.fst + (1 : Int) = y.fst ∧
 (5 : Nat) = (2 : Nat) ∧ False) ∨
 (∃ (y : Int × LI × LI × LI),
 I_3 y ∧
 μ_3 y < μ_4 x_1 ∧
 x_1.fst + (1 : Int) = y.fst ∧
 (5 : Nat) = (3 : Nat) ∧ False) ∨
 (∃ (y : Int × LI × LI × LI × LI),
 I_4 y ∧
 μ_4 y < μ_4 x_1 ∧
 x_1.fst + (1 : Int) = y.fst ∧
 (5 : Nat) = (4 : Nat) ∧ False) ∨
 False))
 (((-9223372036854775808 : Int) ≤ (3 : Int) ∧
 (3 : Int) ≤ (9223372036854775807 : Int)) ∧
 ((0 : Int) ≤ (3 : Int) ∧ (3 : Int) < (4 : Int)) ∧
 ((List.length x_1.snd.snd.snd.snd +
 [x.fst.getD x_1.fst.toNat (0 : Int)].length) *
 (8 : Nat) ≤
 (140737488355328 : Nat) ∧
 List.length x_1.snd.snd.snd.snd +
 [x.fst.getD x_1.fst.toNat (0 : Int)].length ≤
 (140737488355328 : Nat)) ∧
 ((-9223372036854775808 : Int) ≤ x_1.fst + (1 : Int) ∧
 x_1.fst + (1 : Int) ≤ (9223372036854775807 : Int)) ∧
 ((∃ (y : Int),
 I y ∧ μ y < μ_4 x_1 ∧ x_1.fst + (1 : Int) = y ∧ False) ∨
 (∃ (y : Int × LI),
 I_1 y ∧
 μ_1 y < μ_4 x_1 ∧
 x_1.fst + (1 : Int) = y.fst ∧
 (4 : Nat) = (1 : Nat) ∧ False) ∨
 (∃ (y : Int × LI × LI),
 I_2 y ∧
 μ_2 y < μ_4 x_1 ∧
 x_1.fst + (1 : Int) = y.fst ∧
 (4 : Nat) = (2 : Nat) ∧ False) ∨
 (∃ (y : Int × LI × LI × LI),
 I_3 y ∧
 μ_3 y < μ_4 x_1 ∧
 x_1.fst + (1 : Int) = y.fst ∧
 (4 : Nat) = (3 : Nat) ∧ False) ∨
 (∃ (y : Int × LI × LI × LI × LI),
 I_4 y ∧
 μ_4 y < μ_4 x_1 ∧
 x_1.fst + (1 : Int) = y.fst ∧
 (4 : Nat) = (4 : Nat) ∧
 List.length x_1.snd.fst =
 List.length y.snd.fst ∧
 List.length x_1.snd.snd.fst =
 List.length y.snd.snd.fst ∧
 List.length x_1.snd.snd.snd.fst =
 List.length y.snd.snd.snd.fst ∧
 List.length x_1.snd.snd.snd.snd +
 [x.fst.getD x_1.fst.toNat
 (0 : Int)].length =
 List.length y.snd.snd.snd.snd ∧
 x_1.snd.fst = y.snd.fst ∧
 x_1.snd.snd.fst =
 y.snd.snd.fst ∧
 x_1.snd.snd.snd.fst =
 y.snd.snd.snd.fst ∧
 x_1.snd.snd.snd.snd ++
 [x.fst.getD
 x_1.fst.toNat
 (0 : Int)] =
 y.snd.snd.snd.snd ∧
 True) ∨
 False)))
 ((∃ (y : Unit), rowsK x = (1 : Nat) ∧ (4 : Nat) = (1 : Nat) ∧ False) ∨
 (∃ (y : Unit), rowsK x = (2 : Nat) ∧ (4 : Nat) = (2 : Nat) ∧ False) ∨
 (∃ (y : Unit), rowsK x = (3 : Nat) ∧ (4 : Nat) = (3 : Nat) ∧ False) ∨
 ∃ (y : Unit),
 rowsK x = (4 : Nat) ∧
 (4 : Nat) = (4 : Nat) ∧
 List.length x_1.snd.fst = (rowK x (0 : Nat)).length ∧
 List.length x_1.snd.snd.fst = (rowK x (1 : Nat)).length ∧
 List.length x_1.snd.snd.snd.fst =
 (rowK x (2 : Nat)).length ∧
 List.length x_1.snd.snd.snd.snd =
 (rowK x (3 : Nat)).length ∧
 x_1.snd.fst = rowK x (0 : Nat) ∧
 x_1.snd.snd.fst = rowK x (1 : Nat) ∧
 x_1.snd.snd.snd.fst = rowK x (2 : Nat) ∧
 x_1.snd.snd.snd.snd = rowK x (3 : Nat) ∧ True)) ∧
 True)
theorem o_srows : owes Try.prog (tab S0) LqK 0 22 Try.f22 RowsS = T_srows := by kernel_rfl
end Sp
