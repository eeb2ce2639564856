/- Printed by sx.py, a program of this work: what the walks of some functions owe. -/
import Derived.Test.YthnhbnakpmkppaaSpA
import Derived.ProofKit
set_option linter.all false
set_option maxRecDepth 100000
namespace Sp
open Go Go.Proofs Sx
def T_high : Prop :=
 ∀ (x : Nat),
 x ≤ (64 : Nat) →
 ifB (decide ((↑x : Int) = (0 : Int)))
 (∃ (y : Unit), True ∧ (0 : Int) = (↑(Ythnhbnakpmkppaa.Ma.topN x) : Int) ∧ True)
 (((-9223372036854775808 : Int) ≤ (64 : Int) - (↑x : Int) ∧
 (64 : Int) - (↑x : Int) ≤ (9223372036854775807 : Int)) ∧
 (0 : Int) ≤ ((64 : Int) - (↑x : Int)) % (18446744073709551616 : Int) ∧
 ∃ (y : Unit),
 True ∧
 (18446744073709551615 : Int) *
 (2 : Int) ^ min (((64 : Int) - (↑x : Int)) % (18446744073709551616 : Int)).toNat (64 : Nat) %
 (18446744073709551616 : Int) =
 (↑(Ythnhbnakpmkppaa.Ma.topN x) : Int) ∧
 True)
theorem o_high : owes Try.prog (tab L0) Lq 0 173 Try.f173 HighS = T_high := by kernel_rfl
def T_width : Prop :=
 ∀ (x : Bool),
 True → ifB x (∃ (y : Unit), True ∧ (128 : Int) = wid x ∧ True) (∃ (y : Unit), True ∧ (32 : Int) = wid x ∧ True)
theorem o_width : owes Try.prog (tab L0) Lq 0 104 Try.f104 WidthS = T_width := by kernel_rfl
def T_ones : Prop :=
 ∀ (x : Nat × Bool),
 (↑x.fst : Int) ≤ wid x.snd →
 ((-9223372036854775808 : Int) ≤ (0 : Int) ∧ (0 : Int) ≤ (9223372036854775807 : Int)) ∧
 ((-9223372036854775808 : Int) ≤ (↑x.fst : Int) - (0 : Int) ∧
 (↑x.fst : Int) - (0 : Int) ≤ (9223372036854775807 : Int)) ∧
 ((-9223372036854775808 : Int) ≤ (0 : Int) ∧ (0 : Int) ≤ (9223372036854775807 : Int)) ∧
 ((-9223372036854775808 : Int) ≤ wid x.snd - (0 : Int) ∧ wid x.snd - (0 : Int) ≤ (9223372036854775807 : Int)) ∧
 ∃ (x_1 : Nat),
 max (0 : Int) (min (wid x.snd - (0 : Int)) (64 : Int)) = (↑x_1 : Int) ∧
 x_1 ≤ (64 : Nat) ∧
 ∀ (y : Unit),
 True →
 ∃ (x_2 : Nat),
 max (0 : Int) (min ((↑x.fst : Int) - (0 : Int)) (64 : Int)) = (↑x_2 : Int) ∧
 x_2 ≤ (64 : Nat) ∧
 ∀ (y : Unit),
 True →
 ((-9223372036854775808 : Int) ≤ (1 : Int) ∧ (1 : Int) ≤ (9223372036854775807 : Int)) ∧
 ((-9223372036854775808 : Int) ≤ (64 : Int) ∧
 (64 : Int) ≤ (9223372036854775807 : Int)) ∧
 ((-9223372036854775808 : Int) ≤ (↑x.fst : Int) - (64 : Int) ∧
 (↑x.fst : Int) - (64 : Int) ≤ (9223372036854775807 : Int)) ∧
 ((-9223372036854775808 : Int) ≤ (64 : Int) ∧
 (64 : Int) ≤ (9223372036854775807 : Int)) ∧
 ((-9223372036854775808 : Int) ≤ wid x.snd - (64 : Int) ∧
 wid x.snd - (64 : Int) ≤ (9223372036854775807 : Int)) ∧
 ∃ (x_3 : Nat),
 max (0 : Int) (min (wid x.snd - (64 : Int)) (64 : Int)) = (↑x_3 : Int) ∧
 x_3 ≤ (64 : Nat) ∧
 ∀ (y : Unit),
 True →
 ∃ (x_4 : Nat),
 max (0 : Int) (min ((↑x.fst : Int) - (64 : Int)) (64 : Int)) =
 (↑x_4 : Int) ∧
 x_4 ≤ (64 : Nat) ∧
 ∀ (y : Unit),
 True →
 ((-9223372036854775808 : Int) ≤ (2 : Int) ∧
 (2 : Int) ≤ (9223372036854775807 : Int)) ∧
 ∃ (y : Unit),
 True ∧
 bits BinOp.andNot IntKind.u64
 (↑(Ythnhbnakpmkppaa.Ma.topN x_1) : Int)
 (↑(Ythnhbnakpmkppaa.Ma.topN x_2) : Int) =
 (↑(Ythnhbnakpmkppaa.Ma.onesN (c0 x.snd)
 (min x.fst (64 : Nat))) :
 Int) ∧
 bits BinOp.andNot IntKind.u64
 (↑(Ythnhbnakpmkppaa.Ma.topN x_3) : Int)
 (↑(Ythnhbnakpmkppaa.Ma.topN x_4) : Int) =
 (↑(Ythnhbnakpmkppaa.Ma.onesN (c1 x.snd)
 (x.fst - (64 : Nat))) :
 Int) ∧
 True
theorem o_ones : owes Try.prog (tab L2) Lq 0 153 Try.f153 OnesS = T_ones := by kernel_rfl
def T_read : Prop :=
 ∀ (x : Nat × Nat × Bool),
 x.fst.succ.le (18446744073709551616 : Nat) ∧ x.snd.fst.succ.le (18446744073709551616 : Nat) →
 ∃ (x_1 : Bool),
 x.snd.snd = x_1 ∧
 True ∧
 ∀ (y : Unit),
 True →
 ∃ (x_2 : Nat × Bool),
 (0 : Int) = (↑x_2.fst : Int) ∧
 wid x_1 = wid x_2.snd ∧
 (↑x_2.fst : Int) ≤ wid x_2.snd ∧
 ∀ (y : Unit),
 True →
 ((-9223372036854775808 : Int) ≤ (1 : Int) ∧ (1 : Int) ≤ (9223372036854775807 : Int)) ∧
 ((-9223372036854775808 : Int) ≤ (2 : Int) ∧ (2 : Int) ≤ (9223372036854775807 : Int)) ∧
 ∃ (y : Unit),
 True ∧
 bits BinOp.and IntKind.u64 (↑x.fst : Int)
 (↑(Ythnhbnakpmkppaa.Ma.onesN (c0 x_2.snd) (min x_2.fst (64 : Nat))) : Int) =
 (↑(Ythnhbnakpmkppaa.Ma.keepN x.fst (c0 x.snd.snd)) : Int) ∧
 bits BinOp.and IntKind.u64 (↑x.snd.fst : Int)
 (↑(Ythnhbnakpmkppaa.Ma.onesN (c1 x_2.snd) (x_2.fst - (64 : Nat))) : Int) =
 (↑(Ythnhbnakpmkppaa.Ma.keepN x.snd.fst (c1 x.snd.snd)) : Int) ∧
 True
theorem o_read : owes Try.prog (tab L3) Lq 0 124 Try.f124 ReadS = T_read := by kernel_rfl
def T_tail : Prop :=
 ∀ (x : (Nat × Nat × Bool) × Int),
 True →
 ∃ (x_1 : Bool),
 x.fst.snd.snd = x_1 ∧
 True ∧
 ∀ (y : Unit),
 True →
 ∃ (x_2 : Nat × Bool),
 max (0 : Int) (min x.snd (wid x_1)) = (↑x_2.fst : Int) ∧
 wid x_1 = wid x_2.snd ∧
 (↑x_2.fst : Int) ≤ wid x_2.snd ∧
 ∀ (y : Unit),
 True →
 ∃ (y : Unit),
 True ∧
 (↑(Ythnhbnakpmkppaa.Ma.onesN (c0 x_2.snd) (min x_2.fst (64 : Nat))) : Int) =
 (↑(Ythnhbnakpmkppaa.Ma.onesN (c0 x.fst.snd.snd)
 (min (clamp x.fst.snd.snd x.snd) (64 : Nat))) :
 Int) ∧
 (↑(Ythnhbnakpmkppaa.Ma.onesN (c1 x_2.snd) (x_2.fst - (64 : Nat))) : Int) =
 (↑(Ythnhbnakpmkppaa.Ma.onesN (c1 x.fst.snd.snd)
 (clamp x.fst.snd.snd x.snd - (64 : Nat))) :
 Int) ∧
 True
theorem o_tail : owes Try.prog (tab L3) Lq 0 143 Try.f143 TailS = T_tail := by kernel_rfl
def T_mask : Prop :=
 ∀ (x : (Nat × Nat × Bool) × Int),
 x.fst.fst.succ.le (18446744073709551616 : Nat) ∧ x.fst.snd.fst.succ.le (18446744073709551616 : Nat) →
 ∃ (x_1 : Nat × Nat × Bool),
 (↑x.fst.fst : Int) = (↑x_1.fst : Int) ∧
 (↑x.fst.snd.fst : Int) = (↑x_1.snd.fst : Int) ∧
 x.fst.snd.snd = x_1.snd.snd ∧
 (x_1.fst.succ.le (18446744073709551616 : Nat) ∧ x_1.snd.fst.succ.le (18446744073709551616 : Nat)) ∧
 ∀ (y : Unit),
 True →
 ∃ (x_2 : (Nat × Nat × Bool) × Int),
 (↑x.fst.fst : Int) = (↑x_2.fst.fst : Int) ∧
 (↑x.fst.snd.fst : Int) = (↑x_2.fst.snd.fst : Int) ∧
 x.fst.snd.snd = x_2.fst.snd.snd ∧
 x.snd = x_2.snd ∧
 True ∧
 ∀ (y : Unit),
 True →
 ((-9223372036854775808 : Int) ≤ (1 : Int) ∧ (1 : Int) ≤ (9223372036854775807 : Int)) ∧
 ((-9223372036854775808 : Int) ≤ (2 : Int) ∧
 (2 : Int) ≤ (9223372036854775807 : Int)) ∧
 ∃ (y : Unit),
 True ∧
 bits BinOp.andNot IntKind.u64
 (↑(Ythnhbnakpmkppaa.Ma.keepN x_1.fst (c0 x_1.snd.snd)) : Int)
 (↑(Ythnhbnakpmkppaa.Ma.onesN (c0 x_2.fst.snd.snd)
 (min (clamp x_2.fst.snd.snd x_2.snd) (64 : Nat))) :
 Int) =
 (↑(Ythnhbnakpmkppaa.Ma.keepN x.fst.fst
 (min (clamp x.fst.snd.snd x.snd) (64 : Nat))) :
 Int) ∧
 bits BinOp.andNot IntKind.u64
 (↑(Ythnhbnakpmkppaa.Ma.keepN x_1.snd.fst (c1 x_1.snd.snd)) : Int)
 (↑(Ythnhbnakpmkppaa.Ma.onesN (c1 x_2.fst.snd.snd)
 (clamp x_2.fst.snd.snd x_2.snd - (64 : Nat))) :
 Int) =
 (↑(Ythnhbnakpmkppaa.Ma.keepN x.fst.snd.fst
 (clamp x.fst.snd.snd x.snd - (64 : Nat)),
 x.fst.snd.snd).fst :
 Int) ∧
 x.fst.snd.snd =
 (Ythnhbnakpmkppaa.Ma.keepN x.fst.snd.fst
 (clamp x.fst.snd.snd x.snd - (64 : Nat)),
 x.fst.snd.snd).snd ∧
 True
theorem o_mask : owes Try.prog (tab L5) Lq 1 105 Try.f105 MaskS = T_mask := by kernel_rfl
def T_of : Prop :=
 ∀ (x : (Nat × Nat × Bool) × Int),
 x.fst.fst.succ.le (18446744073709551616 : Nat) ∧ x.fst.snd.fst.succ.le (18446744073709551616 : Nat) →
 ∃ (x_1 : Bool),
 x.fst.snd.snd = x_1 ∧
 True ∧
 ∀ (y : Unit),
 True →
 ∃ (x_2 : (Nat × Nat × Bool) × Int),
 (↑x.fst.fst : Int) = (↑x_2.fst.fst : Int) ∧
 (↑x.fst.snd.fst : Int) = (↑x_2.fst.snd.fst : Int) ∧
 x.fst.snd.snd = x_2.fst.snd.snd ∧
 max (0 : Int) (min x.snd (wid x_1)) = x_2.snd ∧
 (x_2.fst.fst.succ.le (18446744073709551616 : Nat) ∧
 x_2.fst.snd.fst.succ.le (18446744073709551616 : Nat)) ∧
 ∀ (y : Unit),
 True →
 ∃ (y : Unit),
 True ∧
 (↑(Ythnhbnakpmkppaa.Ma.keepN x_2.fst.fst
 (min (clamp x_2.fst.snd.snd x_2.snd) (64 : Nat))) :
 Int) =
 (↑(ofP x.fst x.snd).fst.fst : Int) ∧
 (↑(Ythnhbnakpmkppaa.Ma.keepN x_2.fst.snd.fst
 (clamp x_2.fst.snd.snd x_2.snd - (64 : Nat)),
 x_2.fst.snd.snd).fst :
 Int) =
 (↑(ofP x.fst x.snd).fst.snd.fst : Int) ∧
 (Ythnhbnakpmkppaa.Ma.keepN x_2.fst.snd.fst
 (clamp x_2.fst.snd.snd x_2.snd - (64 : Nat)),
 x_2.fst.snd.snd).snd =
 (ofP x.fst x.snd).fst.snd.snd ∧
 max (0 : Int) (min x.snd (wid x_1)) = (ofP x.fst x.snd).snd ∧ True
theorem o_of : owes Try.prog (tab L6) Lq 1 57 Try.f57 OfS = T_of := by kernel_rfl
def T_sane : Prop :=
 ∀ (x : (Nat × Nat × Bool) × Int),
 x.fst.fst.succ.le (18446744073709551616 : Nat) ∧ x.fst.snd.fst.succ.le (18446744073709551616 : Nat) →
 ∃ (x_1 : (Nat × Nat × Bool) × Int),
 (↑x.fst.fst : Int) = (↑x_1.fst.fst : Int) ∧
 (↑x.fst.snd.fst : Int) = (↑x_1.fst.snd.fst : Int) ∧
 x.fst.snd.snd = x_1.fst.snd.snd ∧
 x.snd = x_1.snd ∧
 (x_1.fst.fst.succ.le (18446744073709551616 : Nat) ∧
 x_1.fst.snd.fst.succ.le (18446744073709551616 : Nat)) ∧
 ∀ (y : Unit),
 True →
 ∃ (y : Unit),
 True ∧
 (decide ((↑x.fst.fst : Int) = (↑(ofP x_1.fst x_1.snd).fst.fst : Int)) &&
 (decide ((↑x.fst.snd.fst : Int) = (↑(ofP x_1.fst x_1.snd).fst.snd.fst : Int)) &&
 (decide (x.fst.snd.snd = (ofP x_1.fst x_1.snd).fst.snd.snd) &&
 decide (x.snd = (ofP x_1.fst x_1.snd).snd)))) =
 saneB x ∧
 True
theorem o_sane : owes Try.prog (tab L7) Lq 1 70 Try.f70 SaneS = T_sane := by kernel_rfl
end Sp
