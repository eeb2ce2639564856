import Derived.ProofKit
import Derived.Test.YthnhbnakpmkppaaGreatMgTableGoes21
section
set_option linter.all false
set_option maxRecDepth 100000
namespace Sp
open Go Go.Proofs Sx
@[reducible] def H_SpTct_13 (v1 : TrM × Pf × Int) : Prop :=
 (((0 : Int) <= (pA v1.2.1).1 /\ (pA v1.2.1).1 < (18446744073709551616 : Int)) /\ (0 : Int) <= (pA v1.2.1).2.1 /\ (pA v1.2.1).2.1 < (18446744073709551616 : Int)) /\ v1.1.k <= (7000 : Nat)
@[reducible] def H_SpTct_11 (v1 : Sk × Pf) : Prop :=
 ((0 : Int) <= (pA v1.2).1 /\ (pA v1.2).1 < (18446744073709551616 : Int)) /\ (0 : Int) <= (pA v1.2).2.1 /\ (pA v1.2).2.1 < (18446744073709551616 : Int)
@[reducible] def H_SpTct_1 (v1 : TrM × Pf) (v2 : Tb × TbZ × Rt × Bool) (v3 : SlM) : Prop :=
 ∃ (b1 : TbZ × List Rt), (undE v1.1.e v1.2).length = b1.2.length /\ v2.2.1.pol = b1.1.pol /\ absR rcP v2.2.1.rc = absR rcP b1.1.rc /\ absR slP v3 = absR slP b1.1.sl /\ absR trP v1.1 = absR trP b1.1.tr
 /\ absR skP v2.2.1.sk = absR skP b1.1.sk /\ undE v1.1.e v1.2 = b1.2 /\ LeaveOk b1.1 b1.2 /\ ∀ (b2 : Unit), True -> ∃ (b3 : SlM), absR slP (leavesZ b1.1 b1.2).sl = absR slP b3 /\ True /\ ∀ (b4 : Unit),
 True -> ∃ (b5 : SlM), absR slP b3 = absR slP b5 /\ True /\ ∀ (b6 : Unit), True -> ifB (decide (b5.most <= b3.n)) (∃ (b7 : TbZ), v2.2.1.pol = b7.pol /\ absR rcP (leavesZ b1.1 b1.2).rc = absR rcP b7.rc
 /\ absR slP b5 = absR slP b7.sl /\ absR trP (leavesZ b1.1 b1.2).tr = absR trP b7.tr /\ absR skP v2.2.1.sk = absR skP b7.sk /\ LightOk b7 /\ ∀ (b8 : Unit), True -> ∃ (b9 : SlM × Rt), v2.2.2.1.1 =
 b9.2.1 /\ v2.2.2.1.2.1 = b9.2.2.1 /\ v2.2.2.1.2.2.1 = b9.2.2.2.1 /\ v2.2.2.1.2.2.2.1 = b9.2.2.2.2.1 /\ v2.2.2.1.2.2.2.2 = b9.2.2.2.2.2 /\ absR slP (leaveZ b7 (lightZ b7)).sl = absR slP b9.1 /\ True /\
 ∀ (b10 : Int), (b9.1.n < b9.1.most -> b9.1.pl b10 = none /\ (0 : Int) <= b10 /\ b10 < b9.1.most) /\ (¬b9.1.n < b9.1.most -> b10 = (0 : Int)) -> ∃ (b11 : TrM × Pf × Int), v2.2.2.1.1 = b11.2.1.1 /\
 v2.2.2.1.2.1 = b11.2.1.2.1 /\ v2.2.2.1.2.2.1 = b11.2.1.2.2.1 /\ v2.2.2.1.2.2.2.1 = b11.2.1.2.2.2 /\ b10 = b11.2.2 /\ absR trP (leaveZ b7 (lightZ b7)).tr = absR trP b11.1 /\ (H_SpTct_13 b11) /\ ∀ (b12
 : Unit), True -> ∃ (b13 : RcM × Int), b10 = b13.2 /\ absR rcP (leaveZ b7 (lightZ b7)).rc = absR rcP b13.1 /\ True /\ ∀ (b14 : Unit), True -> ∃ (b15 : TbZ × Int), b10 = b15.2 /\ v2.2.1.pol = b15.1.pol
 /\ absR rcP (if b13.1.in' b13.2 = true then (b13.2 :: b13.1.1.erase b13.2, b13.1.2) else b13.1) = absR rcP b15.1.rc /\ absR slP (if b9.1.n < b9.1.most then SlM.mk (updF b9.1.pl b10 (some b9.2))
 (b9.1.n + (1 : Int)) b9.1.most else b9.1) = absR slP b15.1.sl /\ absR trP (b11.1.put b11.2.1 b11.2.2) = absR trP b15.1.tr /\ absR skP (leaveZ b7 (lightZ b7)).sk = absR skP b15.1.sk /\ True /\ ∀ (b16 :
 Unit), True -> ∃ (b17 : Sk × Pf), ((b15.1.sl.pl b15.2).getD zRt).1 = b17.2.1 /\ ((b15.1.sl.pl b15.2).getD zRt).2.1 = b17.2.2.1 /\ ((b15.1.sl.pl b15.2).getD zRt).2.2.1 = b17.2.2.2.1 /\ ((b15.1.sl.pl
 b15.2).getD zRt).2.2.2.1 = b17.2.2.2.2 /\ absR skP (leaveZ b7 (lightZ b7)).sk = absR skP b17.1 /\ (H_SpTct_11 b17) /\ ∀ (b18 : Unit), True -> ∃ (b19 : TbZ), okTb (v2.1.install v2.2.2.1 v2.2.2.2).1 b19
 /\ true = (v2.1.install v2.2.2.1 v2.2.2.2).2.1 /\ b1.2.length = (v2.1.install v2.2.2.1 v2.2.2.2).2.2.1.length /\ (1 : Nat) = (v2.1.install v2.2.2.1 v2.2.2.2).2.2.2.length /\ absR rcP (if b13.1.in'
 b13.2 = true then (b13.2 :: b13.1.1.erase b13.2, b13.1.2) else b13.1) = absR rcP b19.rc /\ absR slP b15.1.sl = absR slP b19.sl /\ absR trP (b11.1.put b11.2.1 b11.2.2) = absR trP b19.tr /\ absR skP
 (addK b17.1 b17.2) = absR skP b19.sk /\ List.map (atZ b1.1) b1.2 = (v2.1.install v2.2.2.1 v2.2.2.2).2.2.1 /\ [((b7.sl.pl (lightZ b7)).getD zRt)] = (v2.1.install v2.2.2.1 v2.2.2.2).2.2.2 /\ True) (∃
 (b20 : SlM × Rt), v2.2.2.1.1 = b20.2.1 /\ v2.2.2.1.2.1 = b20.2.2.1 /\ v2.2.2.1.2.2.1 = b20.2.2.2.1 /\ v2.2.2.1.2.2.2.1 = b20.2.2.2.2.1 /\ v2.2.2.1.2.2.2.2 = b20.2.2.2.2.2 /\ absR slP b5 = absR slP
 b20.1 /\ True /\ ∀ (b21 : Int), (b20.1.n < b20.1.most -> b20.1.pl b21 = none /\ (0 : Int) <= b21 /\ b21 < b20.1.most) /\ (¬b20.1.n < b20.1.most -> b21 = (0 : Int)) -> ∃ (b22 : TrM × Pf × Int),
 v2.2.2.1.1 = b22.2.1.1 /\ v2.2.2.1.2.1 = b22.2.1.2.1 /\ v2.2.2.1.2.2.1 = b22.2.1.2.2.1 /\ v2.2.2.1.2.2.2.1 = b22.2.1.2.2.2 /\ b21 = b22.2.2 /\ absR trP (leavesZ b1.1 b1.2).tr = absR trP b22.1 /\
 (H_SpTct_13 b22) /\ ∀ (b23 : Unit), True -> ∃ (b24 : RcM × Int), b21 = b24.2 /\ absR rcP (leavesZ b1.1 b1.2).rc = absR rcP b24.1 /\ True /\ ∀ (b25 : Unit), True -> ∃ (b26 : TbZ × Int), b21 = b26.2 /\
 v2.2.1.pol = b26.1.pol /\ absR rcP (if b24.1.in' b24.2 = true then (b24.2 :: b24.1.1.erase b24.2, b24.1.2) else b24.1) = absR rcP b26.1.rc /\ absR slP (if b20.1.n < b20.1.most then SlM.mk (updF
 b20.1.pl b21 (some b20.2)) (b20.1.n + (1 : Int)) b20.1.most else b20.1) = absR slP b26.1.sl /\ absR trP (b22.1.put b22.2.1 b22.2.2) = absR trP b26.1.tr /\ absR skP v2.2.1.sk = absR skP b26.1.sk /\
 True /\ ∀ (b27 : Unit), True -> ∃ (b28 : Sk × Pf), ((b26.1.sl.pl b26.2).getD zRt).1 = b28.2.1 /\ ((b26.1.sl.pl b26.2).getD zRt).2.1 = b28.2.2.1 /\ ((b26.1.sl.pl b26.2).getD zRt).2.2.1 = b28.2.2.2.1 /\
 ((b26.1.sl.pl b26.2).getD zRt).2.2.2.1 = b28.2.2.2.2 /\ absR skP v2.2.1.sk = absR skP b28.1 /\ (H_SpTct_11 b28) /\ ∀ (b29 : Unit), True -> ∃ (b30 : TbZ), okTb (v2.1.install v2.2.2.1 v2.2.2.2).1 b30 /\
 true = (v2.1.install v2.2.2.1 v2.2.2.2).2.1 /\ b1.2.length = (v2.1.install v2.2.2.1 v2.2.2.2).2.2.1.length /\ (0 : Nat) = (v2.1.install v2.2.2.1 v2.2.2.2).2.2.2.length /\ absR rcP (if b24.1.in' b24.2
 = true then (b24.2 :: b24.1.1.erase b24.2, b24.1.2) else b24.1) = absR rcP b30.rc /\ absR slP b26.1.sl = absR slP b30.sl /\ absR trP (b22.1.put b22.2.1 b22.2.2) = absR trP b30.tr /\ absR skP (addK
 b28.1 b28.2) = absR skP b30.sk /\ List.map (atZ b1.1) b1.2 = (v2.1.install v2.2.2.1 v2.2.2.2).2.2.1 /\ [] = (v2.1.install v2.2.2.1 v2.2.2.2).2.2.2 /\ True)
@[reducible] def H_SpTct_2 (v1 : TrM × Ad) (v2 : Tb × TbZ × Ad) : Prop :=
 ∃ (b1 : RcM × Int), ((v1.1.longest v1.2).getLastD zR).2.2.2.2 = b1.2 /\ absR rcP v2.2.1.rc = absR rcP b1.1 /\ True /\ ∀ (b2 : Unit), True -> ∃ (b3 : TbZ × Int), ((v1.1.longest v1.2).getLastD
 zR).2.2.2.2 = b3.2 /\ v2.2.1.pol = b3.1.pol /\ absR rcP (if b1.1.in' b1.2 = true then (b1.2 :: b1.1.1.erase b1.2, b1.1.2) else b1.1) = absR rcP b3.1.rc /\ absR slP v2.2.1.sl = absR slP b3.1.sl /\ absR
 trP v1.1 = absR trP b3.1.tr /\ absR skP v2.2.1.sk = absR skP b3.1.sk /\ True /\ ∀ (b4 : Unit), True -> ∃ (b5 : Sk × Pf), ((b3.1.sl.pl b3.2).getD zRt).1 = b5.2.1 /\ ((b3.1.sl.pl b3.2).getD zRt).2.1 =
 b5.2.2.1 /\ ((b3.1.sl.pl b3.2).getD zRt).2.2.1 = b5.2.2.2.1 /\ ((b3.1.sl.pl b3.2).getD zRt).2.2.2.1 = b5.2.2.2.2 /\ absR skP v2.2.1.sk = absR skP b5.1 /\ (H_SpTct_11 b5) /\ ∀ (b6 : Unit), True -> ∃
 (b7 : TbZ × Int), ((v1.1.longest v1.2).getLastD zR).2.2.2.2 = b7.2 /\ v2.2.1.pol = b7.1.pol /\ absR rcP (if b1.1.in' b1.2 = true then (b1.2 :: b1.1.1.erase b1.2, b1.1.2) else b1.1) = absR rcP b7.1.rc
 /\ absR slP b3.1.sl = absR slP b7.1.sl /\ absR trP v1.1 = absR trP b7.1.tr /\ absR skP (addK b5.1 b5.2) = absR skP b7.1.sk /\ True /\ ∀ (b8 : Unit), True -> ∃ (b9 : TbZ), okTb (v2.1.hit v2.2.2) b9 /\
 ((b7.1.sl.pl b7.2).getD zRt).1 = ((v2.1.find v2.2.2).getD zRt).1 /\ ((b7.1.sl.pl b7.2).getD zRt).2.1 = ((v2.1.find v2.2.2).getD zRt).2.1 /\ ((b7.1.sl.pl b7.2).getD zRt).2.2.1 = ((v2.1.find
 v2.2.2).getD zRt).2.2.1 /\ ((b7.1.sl.pl b7.2).getD zRt).2.2.2.1 = ((v2.1.find v2.2.2).getD zRt).2.2.2.1 /\ ((b7.1.sl.pl b7.2).getD zRt).2.2.2.2 = ((v2.1.find v2.2.2).getD zRt).2.2.2.2 /\ true =
 (v2.1.find v2.2.2).isSome /\ absR rcP (if b1.1.in' b1.2 = true then (b1.2 :: b1.1.1.erase b1.2, b1.1.2) else b1.1) = absR rcP b9.rc /\ absR slP b7.1.sl = absR slP b9.sl /\ absR trP v1.1 = absR trP
 b9.tr /\ absR skP (addK b5.1 b5.2) = absR skP b9.sk /\ True
@[reducible] def H_SpTct_3 (v1 : Tb × TbZ × Rt × Bool) (v2 : SlM) (v3 : TrM × Pf) : Prop :=
 ∃ (b1 : TbZ), okTb (v1.1.install v1.2.2.1 v1.2.2.2).1 b1 /\ false = (v1.1.install v1.2.2.1 v1.2.2.2).2.1 /\ (0 : Nat) = (v1.1.install v1.2.2.1 v1.2.2.2).2.2.1.length /\ (0 : Nat) = (v1.1.install
 v1.2.2.1 v1.2.2.2).2.2.2.length /\ absR rcP v1.2.1.rc = absR rcP b1.rc /\ absR slP v2 = absR slP b1.sl /\ absR trP v3.1 = absR trP b1.tr /\ absR skP v1.2.1.sk = absR skP b1.sk /\ [] = (v1.1.install
 v1.2.2.1 v1.2.2.2).2.2.1 /\ [] = (v1.1.install v1.2.2.1 v1.2.2.2).2.2.2 /\ True
@[reducible] def H_SpTct_4 (v1 : TrM × Ad) (v2 : Tb × TbZ × Ad) : Prop :=
 ∃ (b1 : TbZ × Int), ((v1.1.longest v1.2).getLastD zR).2.2.2.2 = b1.2 /\ v2.2.1.pol = b1.1.pol /\ absR rcP v2.2.1.rc = absR rcP b1.1.rc /\ absR slP v2.2.1.sl = absR slP b1.1.sl /\ absR trP v1.1 = absR
 trP b1.1.tr /\ absR skP v2.2.1.sk = absR skP b1.1.sk /\ True /\ ∀ (b2 : Unit), True -> ∃ (b3 : Unit), True /\ ((b1.1.sl.pl b1.2).getD zRt).1 = ((v2.1.find v2.2.2).getD zRt).1 /\ ((b1.1.sl.pl
 b1.2).getD zRt).2.1 = ((v2.1.find v2.2.2).getD zRt).2.1 /\ ((b1.1.sl.pl b1.2).getD zRt).2.2.1 = ((v2.1.find v2.2.2).getD zRt).2.2.1 /\ ((b1.1.sl.pl b1.2).getD zRt).2.2.2.1 = ((v2.1.find v2.2.2).getD
 zRt).2.2.2.1 /\ ((b1.1.sl.pl b1.2).getD zRt).2.2.2.2 = ((v2.1.find v2.2.2).getD zRt).2.2.2.2 /\ true = (v2.1.find v2.2.2).isSome /\ absR rcP v2.2.1.rc = absR rcP v2.2.1.rc /\ absR slP b1.1.sl = absR
 slP v2.2.1.sl /\ absR trP v1.1 = absR trP v2.2.1.tr /\ absR skP v2.2.1.sk = absR skP v2.2.1.sk /\ True
@[reducible] def H_SpTct_5 (v1 : TrM × Pf) : Prop :=
 ((0 : Int) <= (pA v1.2).1 /\ (pA v1.2).1 < (18446744073709551616 : Int)) /\ (0 : Int) <= (pA v1.2).2.1 /\ (pA v1.2).2.1 < (18446744073709551616 : Int)
@[reducible] def H_SpTct_6 (v1 : Int × TbZ × List Rt) (v2 : TrM × Pf) (v3 : Tb × TbZ) (v4 : Int × TbZ × List Rt → Prop) (v5 : Int × TbZ × List Rt → Nat) : Prop :=
 ((0 : Int) <= v1.1 /\ v1.1 < (↑(undE v2.1.e v2.2).length : Int)) /\ ∃ (b1 : TbZ × Int), ((undE v2.1.e v2.2).getD v1.1.toNat ((0 : Int), (0 : Int), false, (0 : Int), (0 : Int))).2.2.2.2 = b1.2 /\
 v3.2.pol = b1.1.pol /\ absR rcP v3.2.rc = absR rcP b1.1.rc /\ absR slP v1.2.1.sl = absR slP b1.1.sl /\ absR trP v2.1 = absR trP b1.1.tr /\ absR skP v3.2.sk = absR skP b1.1.sk /\ True /\ ∀ (b2 : Unit),
 True -> ((v1.2.2.length + [((b1.1.sl.pl b1.2).getD zRt)].length) * (40 : Nat) <= (140737488355328 : Nat) /\ v1.2.2.length + [((b1.1.sl.pl b1.2).getD zRt)].length <= (140737488355328 : Nat)) /\
 ((-9223372036854775808 : Int) <= v1.1 + (1 : Int) /\ v1.1 + (1 : Int) <= (9223372036854775807 : Int)) /\ ∃ (b3 : Int × TbZ × List Rt), v4 b3 /\ v5 b3 < v5 v1 /\ v1.1 + (1 : Int) = b3.1 /\
 v1.2.2.length + [((b1.1.sl.pl b1.2).getD zRt)].length = b3.2.2.length /\ absR slP b1.1.sl = absR slP b3.2.1.sl /\ v1.2.2 ++ [((b1.1.sl.pl b1.2).getD zRt)] = b3.2.2 /\ True
@[reducible] def H_SpTct_7 (v1 : Tb × TbZ × Rt × Bool) (v2 : SlM) : Prop :=
 ∃ (b1 : TbZ), okTb (v1.1.install v1.2.2.1 v1.2.2.2).1 b1 /\ false = (v1.1.install v1.2.2.1 v1.2.2.2).2.1 /\ (0 : Nat) = (v1.1.install v1.2.2.1 v1.2.2.2).2.2.1.length /\ (0 : Nat) = (v1.1.install
 v1.2.2.1 v1.2.2.2).2.2.2.length /\ absR rcP v1.2.1.rc = absR rcP b1.rc /\ absR slP v2 = absR slP b1.sl /\ absR trP v1.2.1.tr = absR trP b1.tr /\ absR skP v1.2.1.sk = absR skP b1.sk /\ [] =
 (v1.1.install v1.2.2.1 v1.2.2.2).2.2.1 /\ [] = (v1.1.install v1.2.2.1 v1.2.2.2).2.2.2 /\ True
@[reducible] def H_SpTct_8 (v1 : Tb × TbZ × Ad) (v2 : TrM × Ad) : Prop :=
 ∃ (b1 : Unit), True /\ (0 : Int) = ((v1.1.find v1.2.2).getD zRt).1 /\ (0 : Int) = ((v1.1.find v1.2.2).getD zRt).2.1 /\ false = ((v1.1.find v1.2.2).getD zRt).2.2.1 /\ (0 : Int) = ((v1.1.find
 v1.2.2).getD zRt).2.2.2.1 /\ (0 : Int) = ((v1.1.find v1.2.2).getD zRt).2.2.2.2 /\ false = (v1.1.find v1.2.2).isSome /\ absR rcP v1.2.1.rc = absR rcP v1.2.1.rc /\ absR slP v1.2.1.sl = absR slP
 v1.2.1.sl /\ absR trP v2.1 = absR trP v1.2.1.tr /\ absR skP v1.2.1.sk = absR skP v1.2.1.sk /\ True
@[reducible] def H_SpTct_9 (v1 : Tb × TbZ × Ad) (v2 : TrM × Ad) : Prop :=
 ∃ (b1 : TbZ), okTb (v1.1.hit v1.2.2) b1 /\ (0 : Int) = ((v1.1.find v1.2.2).getD zRt).1 /\ (0 : Int) = ((v1.1.find v1.2.2).getD zRt).2.1 /\ false = ((v1.1.find v1.2.2).getD zRt).2.2.1 /\ (0 : Int) =
 ((v1.1.find v1.2.2).getD zRt).2.2.2.1 /\ (0 : Int) = ((v1.1.find v1.2.2).getD zRt).2.2.2.2 /\ false = (v1.1.find v1.2.2).isSome /\ absR rcP v1.2.1.rc = absR rcP b1.rc /\ absR slP v1.2.1.sl = absR slP
 b1.sl /\ absR trP v2.1 = absR trP b1.tr /\ absR skP v1.2.1.sk = absR skP b1.sk /\ True
@[reducible] def H_SpTct_10 (v1 : Tb × TbZ × Pf) : Prop :=
 ((0 : Int) <= (pA v1.2.2).1 /\ (pA v1.2.2).1 < (18446744073709551616 : Int)) /\ (0 : Int) <= (pA v1.2.2).2.1 /\ (pA v1.2.2).2.1 < (18446744073709551616 : Int)
@[reducible] def H_SpTct_12 (v1 : Tb × TbZ × Rt × Bool) : Prop :=
 ((0 : Int) <= (pA (rP v1.2.2.1)).1 /\ (pA (rP v1.2.2.1)).1 < (18446744073709551616 : Int)) /\ (0 : Int) <= (pA (rP v1.2.2.1)).2.1 /\ (pA (rP v1.2.2.1)).2.1 < (18446744073709551616 : Int)
@[reducible] def H_SpTct_14 (v1 : Tb × TbZ × Ad) : Prop :=
 okTb v1.1 v1.2.1 /\ ((0 : Int) <= v1.2.2.1 /\ v1.2.2.1 < (18446744073709551616 : Int)) /\ (0 : Int) <= v1.2.2.2.1 /\ v1.2.2.2.1 < (18446744073709551616 : Int)
@[reducible] def H_SpTct_15 (v1 : Tb × Pf) : Prop :=
 ((0 : Int) <= (pA v1.2).1 /\ (pA v1.2).1 < (18446744073709551616 : Int)) /\ (0 : Int) <= (pA v1.2).2.1 /\ (pA v1.2).2.1 < (18446744073709551616 : Int)
def T_cnew  : Prop :=
 ∀ (x : Int × Int), True -> ∃ (x_1 : Int), x.1 = x_1 /\ True /\ ∀ (y : Unit), True -> ∃ (x_2 : Int), x.1 = x_2 /\ True /\ ∀ (y : Unit), True -> ∃ (x_3 : Unit), True /\ ∀ (y : Unit), True -> ∃ (x_4 :
 Int × Int), (2 : Int) = x_4.1 /\ (64 : Int) = x_4.2 /\ True /\ ∀ (y : Unit), True -> ∃ (y : Unit), True /\ x.2 = x.2 /\ absR rcP ([], (max (0 : Int) (min x_1 (1024 : Int))).toNat) = absR rcP (newZ x.1
 x.2).rc /\ absR slP (SlM.mk (fun (x : Int) => none) (0 : Int) (max (0 : Int) (min x_2 (1024 : Int)))) = absR slP (newZ x.1 x.2).sl /\ absR trP (TrM.mk [] (0 : Nat)) = absR trP (newZ x.1 x.2).tr /\
 absR skP (newK x_4.1 x_4.2) = absR skP (newZ x.1 x.2).sk /\ True
def T_cfind  : Prop :=
 ∀ (x : Tb × TbZ × Ad), okTb x.1 x.2.1 /\ ((0 : Int) <= x.2.2.1 /\ x.2.2.1 < (18446744073709551616 : Int)) /\ (0 : Int) <= x.2.2.2.1 /\ x.2.2.2.1 < (18446744073709551616 : Int) -> (∃ (x_1 : TrM × Ad),
 x.2.2.1 = x_1.2.1 /\ x.2.2.2.1 = x_1.2.2.1 /\ x.2.2.2.2 = x_1.2.2.2 /\ absR trP x.2.1.tr = absR trP x_1.1 /\ (((0 : Int) <= x_1.2.1 /\ x_1.2.1 < (18446744073709551616 : Int)) /\ (0 : Int) <= x_1.2.2.1
 /\ x_1.2.2.1 < (18446744073709551616 : Int)) /\ ∀ (y : Unit), True -> ifB (!!(x_1.1.longest x_1.2).isEmpty) (H_SpTct_8 x x_1) (H_SpTct_4 x_1 x)) /\ ∃ (x_1 : TrM × Ad), x.2.2.1 = x_1.2.1 /\ x.2.2.2.1 =
 x_1.2.2.1 /\ x.2.2.2.2 = x_1.2.2.2 /\ absR trP x.2.1.tr = absR trP x_1.1 /\ (((0 : Int) <= x_1.2.1 /\ x_1.2.1 < (18446744073709551616 : Int)) /\ (0 : Int) <= x_1.2.2.1 /\ x_1.2.2.1 <
 (18446744073709551616 : Int)) /\ ∀ (y : Unit), True -> ifB (!!(x_1.1.longest x_1.2).isEmpty) (H_SpTct_8 x x_1) (H_SpTct_4 x_1 x)
def T_chit  : Prop :=
 ∀ (x : Tb × TbZ × Ad), okTb x.1 x.2.1 /\ ((0 : Int) <= x.2.2.1 /\ x.2.2.1 < (18446744073709551616 : Int)) /\ (0 : Int) <= x.2.2.2.1 /\ x.2.2.2.1 < (18446744073709551616 : Int) -> (∃ (x_1 : TrM × Ad),
 x.2.2.1 = x_1.2.1 /\ x.2.2.2.1 = x_1.2.2.1 /\ x.2.2.2.2 = x_1.2.2.2 /\ absR trP x.2.1.tr = absR trP x_1.1 /\ (((0 : Int) <= x_1.2.1 /\ x_1.2.1 < (18446744073709551616 : Int)) /\ (0 : Int) <= x_1.2.2.1
 /\ x_1.2.2.1 < (18446744073709551616 : Int)) /\ ∀ (y : Unit), True -> ifB (!!(x_1.1.longest x_1.2).isEmpty) (H_SpTct_9 x x_1) (H_SpTct_2 x_1 x)) /\ ∃ (x_1 : TrM × Ad), x.2.2.1 = x_1.2.1 /\ x.2.2.2.1 =
 x_1.2.2.1 /\ x.2.2.2.2 = x_1.2.2.2 /\ absR trP x.2.1.tr = absR trP x_1.1 /\ (((0 : Int) <= x_1.2.1 /\ x_1.2.1 < (18446744073709551616 : Int)) /\ (0 : Int) <= x_1.2.2.1 /\ x_1.2.2.1 <
 (18446744073709551616 : Int)) /\ ∀ (y : Unit), True -> ifB (!!(x_1.1.longest x_1.2).isEmpty) (H_SpTct_9 x x_1) (H_SpTct_2 x_1 x)
def T_cinstall  : Prop :=
 ∀ (x : Tb × TbZ × Rt × Bool), okTb x.1 x.2.1 /\ (H_SpTct_12 x) /\ (x.1.k + x.1.L.length).le (6000 : Nat) -> ∃ (x_1 : SlM), absR slP x.2.1.sl = absR slP x_1 /\ True /\ ∀ (y : Unit), True -> ifB (decide
 (x_1.most = (0 : Int))) (H_SpTct_7 x x_1) (∃ (x_2 : Int × Int × Bool × Int × Int), x.2.2.1.1 = x_2.1 /\ x.2.2.1.2.1 = x_2.2.1 /\ x.2.2.1.2.2.1 = x_2.2.2.1 /\ x.2.2.1.2.2.2.1 = x_2.2.2.2.1 /\
 x.2.2.1.2.2.2.2 = x_2.2.2.2.2 /\ (((0 : Int) <= (pA (rP x_2)).1 /\ (pA (rP x_2)).1 < (18446744073709551616 : Int)) /\ (0 : Int) <= (pA (rP x_2)).2.1 /\ (pA (rP x_2)).2.1 < (18446744073709551616 :
 Int)) /\ ∀ (y : Unit), True -> ifB (!goodR x_2) (H_SpTct_7 x x_1) (∃ (x_3 : TrM × Pf), x.2.2.1.1 = x_3.2.1 /\ x.2.2.1.2.1 = x_3.2.2.1 /\ x.2.2.1.2.2.1 = x_3.2.2.2.1 /\ x.2.2.1.2.2.2.1 = x_3.2.2.2.2 /\
 absR trP x.2.1.tr = absR trP x_3.1 /\ (H_SpTct_5 x_3) /\ ∀ (y : Unit), True -> ifB (decide ((0 : Int) < (↑(abvE x_3.1.e x_3.2).length : Int))) (H_SpTct_3 x x_1 x_3) (∃ (x_4 : TrM × Pf), x.2.2.1.1 =
 x_4.2.1 /\ x.2.2.1.2.1 = x_4.2.2.1 /\ x.2.2.1.2.2.1 = x_4.2.2.2.1 /\ x.2.2.1.2.2.2.1 = x_4.2.2.2.2 /\ absR trP x_3.1 = absR trP x_4.1 /\ (H_SpTct_5 x_4) /\ ∀ (y : Unit), True -> ifB x.2.2.2 (ifB
 (decide ((0 : Int) < (↑(undE x_4.1.e x_4.2).length : Int))) (H_SpTct_3 x x_1 x_4) (∃ (x_5 : SlM), absR slP x_1 = absR slP x_5 /\ True /\ ∀ (y : Unit), True -> ∃ (x_6 : SlM), absR slP x_5 = absR slP
 x_6 /\ True /\ ∀ (y : Unit), True -> ifB (decide (x_6.most <= x_5.n)) (H_SpTct_3 x x_6 x_4) (H_SpTct_1 x_4 x x_6))) (H_SpTct_1 x_4 x x_1))))
def T_cevict  : Prop :=
 ∀ (x : Tb × TbZ × Pf), okTb x.1 x.2.1 /\ (H_SpTct_10 x) /\ (x.1.k + x.1.L.length).le (6000 : Nat) -> ∃ (x_1 : TrM × Pf), x.2.2.1 = x_1.2.1 /\ x.2.2.2.1 = x_1.2.2.1 /\ x.2.2.2.2.1 = x_1.2.2.2.1 /\
 x.2.2.2.2.2 = x_1.2.2.2.2 /\ absR trP x.2.1.tr = absR trP x_1.1 /\ (H_SpTct_5 x_1) /\ ∀ (y : Unit), True -> ifB (getE x_1.1.e x_1.2).isSome (∃ (x_2 : TbZ × Int), (Option.map (fun (x : Rt) =>
 x.2.2.2.2) (getE x_1.1.e x_1.2)).getD (0 : Int) = x_2.2 /\ x.2.1.pol = x_2.1.pol /\ absR rcP x.2.1.rc = absR rcP x_2.1.rc /\ absR slP x.2.1.sl = absR slP x_2.1.sl /\ absR trP x_1.1 = absR trP x_2.1.tr
 /\ absR skP x.2.1.sk = absR skP x_2.1.sk /\ ((∃ (r : Int × Int × Bool × Int × Int), x_2.1.sl.pl x_2.2 = some r /\ ((0 : Int) <= (pA (rP r)).1 /\ (pA (rP r)).1 < (18446744073709551616 : Int)) /\ (0 :
 Int) <= (pA (rP r)).2.1 /\ (pA (rP r)).2.1 < (18446744073709551616 : Int)) /\ x_2.1.tr.k <= (7000 : Nat)) /\ ∀ (y : Unit), True -> ∃ (y : TbZ), okTb (x.1.evict x.2.2) y /\ (getE x_1.1.e x_1.2).isSome
 = (x.1.has x.2.2).isSome /\ absR rcP (leaveZ x_2.1 x_2.2).rc = absR rcP y.rc /\ absR slP (leaveZ x_2.1 x_2.2).sl = absR slP y.sl /\ absR trP (leaveZ x_2.1 x_2.2).tr = absR trP y.tr /\ absR skP
 x.2.1.sk = absR skP y.sk /\ True) (∃ (y : TbZ), okTb (x.1.evict x.2.2) y /\ (getE x_1.1.e x_1.2).isSome = (x.1.has x.2.2).isSome /\ absR rcP x.2.1.rc = absR rcP y.rc /\ absR slP x.2.1.sl = absR slP
 y.sl /\ absR trP x_1.1 = absR trP y.tr /\ absR skP x.2.1.sk = absR skP y.sk /\ True)
def T_cflush  : Prop :=
 ∀ (x : Tb × TbZ × Pf), okTb x.1 x.2.1 /\ (H_SpTct_10 x) /\ (x.1.k + x.1.L.length).le (6000 : Nat) -> ∃ (x_1 : Int × Int × Bool × Int), x.2.2.1 = x_1.1 /\ x.2.2.2.1 = x_1.2.1 /\ x.2.2.2.2.1 = x_1.2.2.1
 /\ x.2.2.2.2.2 = x_1.2.2.2 /\ (((0 : Int) <= (pA x_1).1 /\ (pA x_1).1 < (18446744073709551616 : Int)) /\ (0 : Int) <= (pA x_1).2.1 /\ (pA x_1).2.1 < (18446744073709551616 : Int)) /\ ∀ (y : Unit), True
 -> ifB (!saneP x_1) (∃ (y : TbZ), okTb (x.1.flush x.2.2) y /\ (0 : Nat) = (x.1.lost x.2.2).length /\ absR rcP x.2.1.rc = absR rcP y.rc /\ absR slP x.2.1.sl = absR slP y.sl /\ absR trP x.2.1.tr = absR
 trP y.tr /\ absR skP x.2.1.sk = absR skP y.sk /\ [] = x.1.lost x.2.2 /\ True) (∃ (x_2 : TrM × Pf), x.2.2.1 = x_2.2.1 /\ x.2.2.2.1 = x_2.2.2.1 /\ x.2.2.2.2.1 = x_2.2.2.2.1 /\ x.2.2.2.2.2 = x_2.2.2.2.2
 /\ absR trP x.2.1.tr = absR trP x_2.1 /\ (H_SpTct_5 x_2) /\ ∀ (y : Unit), True -> ifB (decide ((0 : Int) < (↑(abvE x_2.1.e x_2.2).length : Int))) (∃ (x_3 : TbZ × List Rt), (abvE x_2.1.e x_2.2).length
 = x_3.2.length /\ x.2.1.pol = x_3.1.pol /\ absR rcP x.2.1.rc = absR rcP x_3.1.rc /\ absR slP x.2.1.sl = absR slP x_3.1.sl /\ absR trP x_2.1 = absR trP x_3.1.tr /\ absR skP x.2.1.sk = absR skP x_3.1.sk
 /\ abvE x_2.1.e x_2.2 = x_3.2 /\ LeaveOk x_3.1 x_3.2 /\ ∀ (y : Unit), True -> ∃ (y : TbZ), okTb (x.1.flush x.2.2) y /\ x_3.2.length = (x.1.lost x.2.2).length /\ absR rcP (leavesZ x_3.1 x_3.2).rc =
 absR rcP y.rc /\ absR slP (leavesZ x_3.1 x_3.2).sl = absR slP y.sl /\ absR trP (leavesZ x_3.1 x_3.2).tr = absR trP y.tr /\ absR skP x.2.1.sk = absR skP y.sk /\ List.map (atZ x_3.1) x_3.2 = x.1.lost
 x.2.2 /\ True) (∃ (x_3 : TrM × Pf), x.2.2.1 = x_3.2.1 /\ x.2.2.2.1 = x_3.2.2.1 /\ x.2.2.2.2.1 = x_3.2.2.2.1 /\ x.2.2.2.2.2 = x_3.2.2.2.2 /\ absR trP x_2.1 = absR trP x_3.1 /\ (H_SpTct_5 x_3) /\ ∀ (y :
 Unit), True -> ∃ (x_4 : TbZ × List Rt), (undE x_3.1.e x_3.2).length = x_4.2.length /\ x.2.1.pol = x_4.1.pol /\ absR rcP x.2.1.rc = absR rcP x_4.1.rc /\ absR slP x.2.1.sl = absR slP x_4.1.sl /\ absR
 trP x_3.1 = absR trP x_4.1.tr /\ absR skP x.2.1.sk = absR skP x_4.1.sk /\ undE x_3.1.e x_3.2 = x_4.2 /\ LeaveOk x_4.1 x_4.2 /\ ∀ (y : Unit), True -> ∃ (y : TbZ), okTb (x.1.flush x.2.2) y /\
 x_4.2.length = (x.1.lost x.2.2).length /\ absR rcP (leavesZ x_4.1 x_4.2).rc = absR rcP y.rc /\ absR slP (leavesZ x_4.1 x_4.2).sl = absR slP y.sl /\ absR trP (leavesZ x_4.1 x_4.2).tr = absR trP y.tr /\
 absR skP x.2.1.sk = absR skP y.sk /\ List.map (atZ x_4.1) x_4.2 = x.1.lost x.2.2 /\ True))
def T_ctick  : Prop :=
 ∀ (x : Tb × TbZ), okTb x.1 x.2 -> ∃ (x_1 : List Int × Int), absR skP x.2.sk = absR skP x_1 /\ True /\ ∀ (y : Unit), True -> ∃ (y : TbZ), okTb x.1.tick y /\ absR rcP x.2.rc = absR rcP y.rc /\ absR slP
 x.2.sl = absR slP y.sl /\ absR trP x.2.tr = absR trP y.tr /\ absR skP (decK x_1) = absR skP y.sk /\ True
def T_call  : Prop :=
 ∀ (x : Tb × TbZ), okTb x.1 x.2 -> ((0 : Int) <= (0 : Int) /\ (0 : Int) < (2 : Int)) /\ ∃ (x_1 : TrM × Pf), (0 : Int) = x_1.2.1 /\ (0 : Int) = x_1.2.2.1 /\ [false, true].getD (0 : Nat) false =
 x_1.2.2.2.1 /\ (0 : Int) = x_1.2.2.2.2 /\ absR trP x.2.tr = absR trP x_1.1 /\ (H_SpTct_5 x_1) /\ ∀ (y : Unit), True -> ∃ (I : Int × TbZ × List Rt -> Prop), ∃ (μ : Int × TbZ × List Rt -> Nat), (∃ (x_2
 : Int × TbZ × List Rt), I x_2 /\ (0 : Int) = x_2.1 /\ (0 : Nat) = x_2.2.2.length /\ absR slP x.2.sl = absR slP x_2.2.1.sl /\ [] = x_2.2.2 /\ True) /\ ∀ (x_2 : Int × TbZ × List Rt), I x_2 -> ifB
 (decide (x_2.1 < (↑(undE x_1.1.e x_1.2).length : Int))) (H_SpTct_6 x_2 x_1 x I μ) (((-9223372036854775808 : Int) <= (1 : Int) /\ (1 : Int) <= (9223372036854775807 : Int)) /\ ((0 : Int) <= (1 : Int) /\
 (1 : Int) < (2 : Int)) /\ ∃ (x_3 : TrM × Pf), (0 : Int) = x_3.2.1 /\ (0 : Int) = x_3.2.2.1 /\ [false, true].getD (1 : Nat) false = x_3.2.2.2.1 /\ (0 : Int) = x_3.2.2.2.2 /\ absR trP x_1.1 = absR trP
 x_3.1 /\ (H_SpTct_5 x_3) /\ ∀ (y : Unit), True -> ∃ (I : Int × TbZ × List Rt -> Prop), ∃ (μ : Int × TbZ × List Rt -> Nat), (∃ (x : Int × TbZ × List Rt), I x /\ (0 : Int) = x.1 /\ x_2.2.2.length =
 x.2.2.length /\ absR slP x_2.2.1.sl = absR slP x.2.1.sl /\ x_2.2.2 = x.2.2 /\ True) /\ ∀ (x_4 : Int × TbZ × List Rt), I x_4 -> ifB (decide (x_4.1 < (↑(undE x_3.1.e x_3.2).length : Int))) (H_SpTct_6
 x_4 x_3 x I μ) (((-9223372036854775808 : Int) <= (2 : Int) /\ (2 : Int) <= (9223372036854775807 : Int)) /\ ∃ (y : Unit), True /\ x_4.2.2.length = (srtR x.1.L).length /\ absR rcP x.2.rc = absR rcP
 x.2.rc /\ absR slP x_4.2.1.sl = absR slP x.2.sl /\ absR trP x_3.1 = absR trP x.2.tr /\ absR skP x.2.sk = absR skP x.2.sk /\ x_4.2.2 = srtR x.1.L /\ True))
def T_corder  : Prop :=
 ∀ (x : Tb × TbZ), okTb x.1 x.2 -> ∃ (x_1 : List Int × Nat), absR rcP x.2.rc = absR rcP x_1 /\ True /\ ∀ (y : Unit), True -> ∃ (I : Int × TbZ × List Pf -> Prop), ∃ (μ : Int × TbZ × List Pf -> Nat), (∃
 (x_2 : Int × TbZ × List Pf), I x_2 /\ (0 : Int) = x_2.1 /\ (0 : Nat) = x_2.2.2.length /\ absR slP x.2.sl = absR slP x_2.2.1.sl /\ [] = x_2.2.2 /\ True) /\ ∀ (x_2 : Int × TbZ × List Pf), I x_2 -> ifB
 (decide (x_2.1 < (↑x_1.1.length : Int))) (((0 : Int) <= x_2.1 /\ x_2.1 < (↑x_1.1.length : Int)) /\ ∃ (x_3 : TbZ × Int), x_1.1.getD x_2.1.toNat (0 : Int) = x_3.2 /\ x.2.pol = x_3.1.pol /\ absR rcP x_1
 = absR rcP x_3.1.rc /\ absR slP x_2.2.1.sl = absR slP x_3.1.sl /\ absR trP x.2.tr = absR trP x_3.1.tr /\ absR skP x.2.sk = absR skP x_3.1.sk /\ True /\ ∀ (y : Unit), True -> ((x_2.2.2.length +
 [(((x_3.1.sl.pl x_3.2).getD zRt).1, ((x_3.1.sl.pl x_3.2).getD zRt).2.1, ((x_3.1.sl.pl x_3.2).getD zRt).2.2.1, ((x_3.1.sl.pl x_3.2).getD zRt).2.2.2.1)].length) * (32 : Nat) <= (140737488355328 : Nat)
 /\ x_2.2.2.length + [(((x_3.1.sl.pl x_3.2).getD zRt).1, ((x_3.1.sl.pl x_3.2).getD zRt).2.1, ((x_3.1.sl.pl x_3.2).getD zRt).2.2.1, ((x_3.1.sl.pl x_3.2).getD zRt).2.2.2.1)].length <= (140737488355328 :
 Nat)) /\ ((-9223372036854775808 : Int) <= x_2.1 + (1 : Int) /\ x_2.1 + (1 : Int) <= (9223372036854775807 : Int)) /\ ∃ (y : Int × TbZ × List Pf), I y /\ μ y < μ x_2 /\ x_2.1 + (1 : Int) = y.1 /\
 x_2.2.2.length + [(((x_3.1.sl.pl x_3.2).getD zRt).1, ((x_3.1.sl.pl x_3.2).getD zRt).2.1, ((x_3.1.sl.pl x_3.2).getD zRt).2.2.1, ((x_3.1.sl.pl x_3.2).getD zRt).2.2.2.1)].length = y.2.2.length /\ absR
 slP x_3.1.sl = absR slP y.2.1.sl /\ x_2.2.2 ++ [(((x_3.1.sl.pl x_3.2).getD zRt).1, ((x_3.1.sl.pl x_3.2).getD zRt).2.1, ((x_3.1.sl.pl x_3.2).getD zRt).2.2.1, ((x_3.1.sl.pl x_3.2).getD zRt).2.2.2.1)] =
 y.2.2 /\ True) (∃ (y : Unit), True /\ x_2.2.2.length = x.1.L.length /\ absR rcP x_1 = absR rcP x.2.rc /\ absR slP x_2.2.1.sl = absR slP x.2.sl /\ absR trP x.2.tr = absR trP x.2.tr /\ absR skP x.2.sk =
 absR skP x.2.sk /\ x_2.2.2 = List.map rP x.1.L /\ True)
def T_csize  : Prop :=
 ∀ (x : Tb × TbZ), okTb x.1 x.2 -> ∃ (x_1 : List Int × Nat), absR rcP x.2.rc = absR rcP x_1 /\ True /\ ∀ (y : Unit), True -> ∃ (x_2 : SlM), absR slP x.2.sl = absR slP x_2 /\ True /\ ∀ (y : Unit), True
 -> ∃ (y : Unit), True /\ (↑x_1.1.length : Int) = (↑x.1.L.length : Int) /\ x_2.most = x.1.most /\ absR rcP x_1 = absR rcP x.2.rc /\ absR slP x_2 = absR slP x.2.sl /\ absR trP x.2.tr = absR trP x.2.tr
 /\ absR skP x.2.sk = absR skP x.2.sk /\ True
def T_tcnew  : Prop :=
 ∀ (x' : Int × Int), True -> ∃ (x : Int × Int), x'.1 = x.1 /\ x'.2 = x.2 /\ True /\ ∀ (y : Unit), True -> ∃ (m' : Tb), ∃ (z : TbZ), okTb m' z /\ x.2 = z.pol /\ absR rcP (newZ x.1 x.2).rc = absR rcP
 z.rc /\ absR slP (newZ x.1 x.2).sl = absR slP z.sl /\ absR trP (newZ x.1 x.2).tr = absR trP z.tr /\ absR skP (newZ x.1 x.2).sk = absR skP z.sk /\ ∃ (y : Unit), True /\ absR tbP m' = absR tbP (Tb.new
 x'.1 x'.2) /\ True
def T_tcfind  : Prop :=
 ∀ (x' : Tb × Ad), ((0 : Int) <= x'.2.1 /\ x'.2.1 < (18446744073709551616 : Int)) /\ (0 : Int) <= x'.2.2.1 /\ x'.2.2.1 < (18446744073709551616 : Int) -> ∃ (m : Tb), absR tbP m = absR tbP x'.1 /\ ∀ (z :
 TbZ), okTb m z -> ∃ (x : Tb × TbZ × Ad), x'.2.1 = x.2.2.1 /\ x'.2.2.1 = x.2.2.2.1 /\ x'.2.2.2 = x.2.2.2.2 /\ z.pol = x.2.1.pol /\ absR rcP z.rc = absR rcP x.2.1.rc /\ absR slP z.sl = absR slP x.2.1.sl
 /\ absR trP z.tr = absR trP x.2.1.tr /\ absR skP z.sk = absR skP x.2.1.sk /\ (H_SpTct_14 x) /\ ∀ (y : Unit), True -> ∃ (m' : Tb), ∃ (z_1 : TbZ), okTb m' z_1 /\ z.pol = z_1.pol /\ absR rcP x.2.1.rc =
 absR rcP z_1.rc /\ absR slP x.2.1.sl = absR slP z_1.sl /\ absR trP x.2.1.tr = absR trP z_1.tr /\ absR skP x.2.1.sk = absR skP z_1.sk /\ ∃ (y : Unit), True /\ ((x.1.find x.2.2).getD zRt).1 =
 ((x'.1.find x'.2).getD zRt).1 /\ ((x.1.find x.2.2).getD zRt).2.1 = ((x'.1.find x'.2).getD zRt).2.1 /\ ((x.1.find x.2.2).getD zRt).2.2.1 = ((x'.1.find x'.2).getD zRt).2.2.1 /\ ((x.1.find x.2.2).getD
 zRt).2.2.2.1 = ((x'.1.find x'.2).getD zRt).2.2.2.1 /\ ((x.1.find x.2.2).getD zRt).2.2.2.2 = ((x'.1.find x'.2).getD zRt).2.2.2.2 /\ (x.1.find x.2.2).isSome = (x'.1.find x'.2).isSome /\ absR tbP m' =
 absR tbP x'.1 /\ True
def T_tchit  : Prop :=
 ∀ (x' : Tb × Ad), ((0 : Int) <= x'.2.1 /\ x'.2.1 < (18446744073709551616 : Int)) /\ (0 : Int) <= x'.2.2.1 /\ x'.2.2.1 < (18446744073709551616 : Int) -> ∃ (m : Tb), absR tbP m = absR tbP x'.1 /\ ∀ (z :
 TbZ), okTb m z -> ∃ (x : Tb × TbZ × Ad), x'.2.1 = x.2.2.1 /\ x'.2.2.1 = x.2.2.2.1 /\ x'.2.2.2 = x.2.2.2.2 /\ z.pol = x.2.1.pol /\ absR rcP z.rc = absR rcP x.2.1.rc /\ absR slP z.sl = absR slP x.2.1.sl
 /\ absR trP z.tr = absR trP x.2.1.tr /\ absR skP z.sk = absR skP x.2.1.sk /\ (H_SpTct_14 x) /\ ∀ (y : TbZ), okTb (x.1.hit x.2.2) y -> ∃ (m' : Tb), ∃ (z_1 : TbZ), okTb m' z_1 /\ z.pol = z_1.pol /\ absR
 rcP y.rc = absR rcP z_1.rc /\ absR slP y.sl = absR slP z_1.sl /\ absR trP y.tr = absR trP z_1.tr /\ absR skP y.sk = absR skP z_1.sk /\ ∃ (y : Unit), True /\ ((x.1.find x.2.2).getD zRt).1 = ((x'.1.find
 x'.2).getD zRt).1 /\ ((x.1.find x.2.2).getD zRt).2.1 = ((x'.1.find x'.2).getD zRt).2.1 /\ ((x.1.find x.2.2).getD zRt).2.2.1 = ((x'.1.find x'.2).getD zRt).2.2.1 /\ ((x.1.find x.2.2).getD zRt).2.2.2.1 =
 ((x'.1.find x'.2).getD zRt).2.2.2.1 /\ ((x.1.find x.2.2).getD zRt).2.2.2.2 = ((x'.1.find x'.2).getD zRt).2.2.2.2 /\ (x.1.find x.2.2).isSome = (x'.1.find x'.2).isSome /\ absR tbP m' = absR tbP
 (x'.1.hit x'.2) /\ True
def T_tcinstall  : Prop :=
 ∀ (x' : Tb × Rt × Bool), (((0 : Int) <= (pA (rP x'.2.1)).1 /\ (pA (rP x'.2.1)).1 < (18446744073709551616 : Int)) /\ (0 : Int) <= (pA (rP x'.2.1)).2.1 /\ (pA (rP x'.2.1)).2.1 < (18446744073709551616 :
 Int)) /\ (x'.1.k + x'.1.L.length).le (6000 : Nat) -> ∃ (m : Tb), absR tbP m = absR tbP x'.1 /\ ∀ (z : TbZ), okTb m z -> ∃ (x : Tb × TbZ × Rt × Bool), x'.2.1.1 = x.2.2.1.1 /\ x'.2.1.2.1 = x.2.2.1.2.1
 /\ x'.2.1.2.2.1 = x.2.2.1.2.2.1 /\ x'.2.1.2.2.2.1 = x.2.2.1.2.2.2.1 /\ x'.2.1.2.2.2.2 = x.2.2.1.2.2.2.2 /\ x'.2.2 = x.2.2.2 /\ z.pol = x.2.1.pol /\ absR rcP z.rc = absR rcP x.2.1.rc /\ absR slP z.sl =
 absR slP x.2.1.sl /\ absR trP z.tr = absR trP x.2.1.tr /\ absR skP z.sk = absR skP x.2.1.sk /\ (okTb x.1 x.2.1 /\ (H_SpTct_12 x) /\ (x.1.k + x.1.L.length).le (6000 : Nat)) /\ ∀ (y : TbZ), okTb
 (x.1.install x.2.2.1 x.2.2.2).1 y -> ∃ (m' : Tb), ∃ (z_1 : TbZ), okTb m' z_1 /\ z.pol = z_1.pol /\ absR rcP y.rc = absR rcP z_1.rc /\ absR slP y.sl = absR slP z_1.sl /\ absR trP y.tr = absR trP z_1.tr
 /\ absR skP y.sk = absR skP z_1.sk /\ ∃ (y : Unit), True /\ (x.1.install x.2.2.1 x.2.2.2).2.1 = (x'.1.install x'.2.1 x'.2.2).2.1 /\ (x.1.install x.2.2.1 x.2.2.2).2.2.1.length = (x'.1.install x'.2.1
 x'.2.2).2.2.1.length /\ (x.1.install x.2.2.1 x.2.2.2).2.2.2.length = (x'.1.install x'.2.1 x'.2.2).2.2.2.length /\ absR tbP m' = absR tbP (x'.1.install x'.2.1 x'.2.2).1 /\ (x.1.install x.2.2.1
 x.2.2.2).2.2.1 = (x'.1.install x'.2.1 x'.2.2).2.2.1 /\ (x.1.install x.2.2.1 x.2.2.2).2.2.2 = (x'.1.install x'.2.1 x'.2.2).2.2.2 /\ True
def T_tcevict  : Prop :=
 ∀ (x' : Tb × Pf), (H_SpTct_15 x') /\ (x'.1.k + x'.1.L.length).le (6000 : Nat) -> ∃ (m : Tb), absR tbP m = absR tbP x'.1 /\ ∀ (z : TbZ), okTb m z -> ∃ (x : Tb × TbZ × Pf), x'.2.1 = x.2.2.1 /\ x'.2.2.1
 = x.2.2.2.1 /\ x'.2.2.2.1 = x.2.2.2.2.1 /\ x'.2.2.2.2 = x.2.2.2.2.2 /\ z.pol = x.2.1.pol /\ absR rcP z.rc = absR rcP x.2.1.rc /\ absR slP z.sl = absR slP x.2.1.sl /\ absR trP z.tr = absR trP x.2.1.tr
 /\ absR skP z.sk = absR skP x.2.1.sk /\ (okTb x.1 x.2.1 /\ (H_SpTct_10 x) /\ (x.1.k + x.1.L.length).le (6000 : Nat)) /\ ∀ (y : TbZ), okTb (x.1.evict x.2.2) y -> ∃ (m' : Tb), ∃ (z_1 : TbZ), okTb m' z_1
 /\ z.pol = z_1.pol /\ absR rcP y.rc = absR rcP z_1.rc /\ absR slP y.sl = absR slP z_1.sl /\ absR trP y.tr = absR trP z_1.tr /\ absR skP y.sk = absR skP z_1.sk /\ ∃ (y : Unit), True /\ (x.1.has
 x.2.2).isSome = (x'.1.has x'.2).isSome /\ absR tbP m' = absR tbP (x'.1.evict x'.2) /\ True
def T_tcflush  : Prop :=
 ∀ (x' : Tb × Pf), (H_SpTct_15 x') /\ (x'.1.k + x'.1.L.length).le (6000 : Nat) -> ∃ (m : Tb), absR tbP m = absR tbP x'.1 /\ ∀ (z : TbZ), okTb m z -> ∃ (x : Tb × TbZ × Pf), x'.2.1 = x.2.2.1 /\ x'.2.2.1
 = x.2.2.2.1 /\ x'.2.2.2.1 = x.2.2.2.2.1 /\ x'.2.2.2.2 = x.2.2.2.2.2 /\ z.pol = x.2.1.pol /\ absR rcP z.rc = absR rcP x.2.1.rc /\ absR slP z.sl = absR slP x.2.1.sl /\ absR trP z.tr = absR trP x.2.1.tr
 /\ absR skP z.sk = absR skP x.2.1.sk /\ (okTb x.1 x.2.1 /\ (H_SpTct_10 x) /\ (x.1.k + x.1.L.length).le (6000 : Nat)) /\ ∀ (y : TbZ), okTb (x.1.flush x.2.2) y -> ∃ (m' : Tb), ∃ (z_1 : TbZ), okTb m' z_1
 /\ z.pol = z_1.pol /\ absR rcP y.rc = absR rcP z_1.rc /\ absR slP y.sl = absR slP z_1.sl /\ absR trP y.tr = absR trP z_1.tr /\ absR skP y.sk = absR skP z_1.sk /\ ∃ (y : Unit), True /\ (x.1.lost
 x.2.2).length = (x'.1.lost x'.2).length /\ absR tbP m' = absR tbP (x'.1.flush x'.2) /\ x.1.lost x.2.2 = x'.1.lost x'.2 /\ True
def T_tctick  : Prop :=
 ∀ (x' : Tb), True -> ∃ (m : Tb), absR tbP m = absR tbP x' /\ ∀ (z : TbZ), okTb m z -> ∃ (x : Tb × TbZ), z.pol = x.2.pol /\ absR rcP z.rc = absR rcP x.2.rc /\ absR slP z.sl = absR slP x.2.sl /\ absR
 trP z.tr = absR trP x.2.tr /\ absR skP z.sk = absR skP x.2.sk /\ okTb x.1 x.2 /\ ∀ (y : TbZ), okTb x.1.tick y -> ∃ (m' : Tb), ∃ (z_1 : TbZ), okTb m' z_1 /\ z.pol = z_1.pol /\ absR rcP y.rc = absR rcP
 z_1.rc /\ absR slP y.sl = absR slP z_1.sl /\ absR trP y.tr = absR trP z_1.tr /\ absR skP y.sk = absR skP z_1.sk /\ ∃ (y : Unit), True /\ absR tbP m' = absR tbP x'.tick /\ True
def T_tcall  : Prop :=
 ∀ (x' : Tb), True -> ∃ (m : Tb), absR tbP m = absR tbP x' /\ ∀ (z : TbZ), okTb m z -> ∃ (x : Tb × TbZ), z.pol = x.2.pol /\ absR rcP z.rc = absR rcP x.2.rc /\ absR slP z.sl = absR slP x.2.sl /\ absR
 trP z.tr = absR trP x.2.tr /\ absR skP z.sk = absR skP x.2.sk /\ okTb x.1 x.2 /\ ∀ (y : Unit), True -> ∃ (m' : Tb), ∃ (z_1 : TbZ), okTb m' z_1 /\ z.pol = z_1.pol /\ absR rcP x.2.rc = absR rcP z_1.rc
 /\ absR slP x.2.sl = absR slP z_1.sl /\ absR trP x.2.tr = absR trP z_1.tr /\ absR skP x.2.sk = absR skP z_1.sk /\ ∃ (y : Unit), True /\ (srtR x.1.L).length = (srtR x'.L).length /\ absR tbP m' = absR
 tbP x' /\ srtR x.1.L = srtR x'.L /\ True
def T_tcorder  : Prop :=
 ∀ (x' : Tb), True -> ∃ (m : Tb), absR tbP m = absR tbP x' /\ ∀ (z : TbZ), okTb m z -> ∃ (x : Tb × TbZ), z.pol = x.2.pol /\ absR rcP z.rc = absR rcP x.2.rc /\ absR slP z.sl = absR slP x.2.sl /\ absR
 trP z.tr = absR trP x.2.tr /\ absR skP z.sk = absR skP x.2.sk /\ okTb x.1 x.2 /\ ∀ (y : Unit), True -> ∃ (m' : Tb), ∃ (z_1 : TbZ), okTb m' z_1 /\ z.pol = z_1.pol /\ absR rcP x.2.rc = absR rcP z_1.rc
 /\ absR slP x.2.sl = absR slP z_1.sl /\ absR trP x.2.tr = absR trP z_1.tr /\ absR skP x.2.sk = absR skP z_1.sk /\ ∃ (y : Unit), True /\ x.1.L.length = (List.map rP x'.L).length /\ absR tbP m' = absR
 tbP x' /\ List.map rP x.1.L = List.map rP x'.L /\ True
def T_tcsize  : Prop :=
 ∀ (x' : Tb), True -> ∃ (m : Tb), absR tbP m = absR tbP x' /\ ∀ (z : TbZ), okTb m z -> ∃ (x : Tb × TbZ), z.pol = x.2.pol /\ absR rcP z.rc = absR rcP x.2.rc /\ absR slP z.sl = absR slP x.2.sl /\ absR
 trP z.tr = absR trP x.2.tr /\ absR skP z.sk = absR skP x.2.sk /\ okTb x.1 x.2 /\ ∀ (y : Unit), True -> ∃ (m' : Tb), ∃ (z_1 : TbZ), okTb m' z_1 /\ z.pol = z_1.pol /\ absR rcP x.2.rc = absR rcP z_1.rc
 /\ absR slP x.2.sl = absR slP z_1.sl /\ absR trP x.2.tr = absR trP z_1.tr /\ absR skP x.2.sk = absR skP z_1.sk /\ ∃ (y : Unit), True /\ (↑x.1.L.length : Int) = (↑x'.L.length : Int) /\ x.1.most =
 x'.most /\ absR tbP m' = absR tbP x' /\ True
theorem o_cnew : owes Tryz.prog (tab TB3) LqC 1 21 Tryz.f21 NewB = T_cnew := by kernel_rfl
theorem o_cfind : owes Tryz.prog (tab TB3) LqC 2 29 Tryz.f29 FindB = T_cfind := by kernel_rfl
theorem o_chit : owes Tryz.prog (tab TB3) LqC 2 30 Tryz.f30 HitB = T_chit := by kernel_rfl
theorem o_cinstall : owes Tryz.prog (tab TB3) LqC 2 77 Tryz.f77 InstallB = T_cinstall := by kernel_rfl
theorem o_cevict : owes Tryz.prog (tab TB3) LqC 2 86 Tryz.f86 EvictB = T_cevict := by kernel_rfl
theorem o_cflush : owes Tryz.prog (tab TB3) LqC 2 37 Tryz.f37 FlushB = T_cflush := by kernel_rfl
theorem o_ctick : owes Tryz.prog (tab TB3) LqC 2 87 Tryz.f87 TickB = T_ctick := by kernel_rfl
theorem o_call : owes Tryz.prog (tab TB3) LqC 2 27 Tryz.f27 AllB = T_call := by kernel_rfl
theorem o_corder : owes Tryz.prog (tab TB3) LqC 2 28 Tryz.f28 OrderB = T_corder := by kernel_rfl
theorem o_csize : owes Tryz.prog (tab TB3) LqC 2 79 Tryz.f79 SizeB = T_csize := by kernel_rfl
theorem o_tcnew : wrapsN tbP 0 NewB NewTB = T_tcnew := by kernel_rfl
theorem o_tcfind : wraps tbP FindB FindTB = T_tcfind := by kernel_rfl
theorem o_tchit : wraps tbP HitB HitTB = T_tchit := by kernel_rfl
theorem o_tcinstall : wraps tbP InstallB InstallTB = T_tcinstall := by kernel_rfl
theorem o_tcevict : wraps tbP EvictB EvictTB = T_tcevict := by kernel_rfl
theorem o_tcflush : wraps tbP FlushB FlushTB = T_tcflush := by kernel_rfl
theorem o_tctick : wraps tbP TickB TickTB = T_tctick := by kernel_rfl
theorem o_tcall : wraps tbP AllB AllTB = T_tcall := by kernel_rfl
theorem o_tcorder : wraps tbP OrderB OrderTB = T_tcorder := by kernel_rfl
theorem o_tcsize : wraps tbP SizeB SizeTB = T_tcsize := by kernel_rfl
end Sp
end
section
set_option linter.all false
set_option maxRecDepth 10000
namespace Sp
section
variable {m : Tb} {z : TbZ}
def useZ (z : TbZ) (i : Int) : TbZ := { z with rc := (i :: z.rc.1.erase i, z.rc.2), sk := addK z.sk (rP ((z.sl.pl i).getD zRt)) }
theorem okTb.keepK (h : okTb m z) (p : Pf) : okK (addK m.sk p) ∧ (addK m.sk p).1.length = 128 ∧ (addK m.sk p).2 = 64 := by
  obtain ⟨h1, h2, h3⟩ := h.ksk
  exact ⟨okK_add h1 p, by rw [addK_len h1]; exact h2, by rw [addK_w]; exact h3⟩
theorem okTb.in' (h : okTb m z) {i : Int} (hi : i ∈ z.rc.1) : z.rc.in' i = true := by
  have := h.rng i hi
  have := h.most
  unfold RcM.in'
  simp only [Bool.and_eq_true, decide_eq_true_eq]
  omega
theorem okTb.use (h : okTb m z) {i : Int} {x : Rt} (hi : z.sl.pl i = some x) : okTb (m.use x) (useZ z i) := by
  have hio : i ∈ z.rc.1 := (h.used i).1 (by rw [hi]; rfl)
  have hx : x ∈ m.L := h.mem.2 ⟨i, hi⟩
  have hnd := dis_nodup h.good h.dis
  have hlen := filter_ne_len hnd hx
  have e1 : (z.sl.pl i).getD zRt = x := by rw [hi]; rfl
  have hsub : ∀ y, y ∈ x :: m.L.filter (fun y => !decide (y = x)) → y ∈ m.L := by
    intro y hy
    rcases List.mem_cons.1 hy with rfl | hy
    · exact hx
    · exact (List.mem_filter.1 hy).1
  refine ⟨h.pol, ?_, h.most, ?_, ?_, ?_, ?_, ?_, h.srt, h.snn, h.tr, h.k, fun y hy => h.good y (hsub y hy), ?_, h.keepK _⟩
  · show addK z.sk (rP ((z.sl.pl i).getD zRt)) = addK m.sk (rP x)
    rw [e1, h.sk]
  · have := h.n
    show z.sl.n = ((x :: m.L.filter (fun y => !decide (y = x))).length : Int) ∧ ((x :: m.L.filter (fun y => !decide (y = x))).length : Int) ≤ m.most
    rw [List.length_cons, hlen]
    exact this
  · show (i :: z.rc.1.erase i).map z.sl.pl = (x :: m.L.filter (fun y => !decide (y = x))).map some
    rw [List.map_cons, List.map_cons, hi, erase_map h.ord h.nd hnd hio hi fun _ _ => rfl]
  · intro j
    rw [show (useZ z i).sl = z.sl from rfl, h.used j]
    show j ∈ z.rc.1 ↔ j ∈ i :: z.rc.1.erase i
    rw [List.mem_cons, h.nd.mem_erase_iff]
    constructor
    · intro hj
      by_cases e : j = i
      · exact .inl e
      · exact .inr ⟨e, hj⟩
    · rintro (rfl | ⟨_, hj⟩)
      · exact hio
      · exact hj
  · intro j hj
    rcases List.mem_cons.1 hj with rfl | hj
    · exact h.rng _ hio
    · exact h.rng j (List.mem_of_mem_erase hj)
  · exact List.nodup_cons.2 ⟨fun k => ((h.nd.mem_erase_iff).1 k).1 rfl, h.nd.erase i⟩
  · refine List.pairwise_cons.2 ⟨fun y hy => ?_, List.Pairwise.filter _ h.dis⟩
    obtain ⟨h1, h2⟩ := List.mem_filter.1 hy
    have hne : x ≠ y := fun e => by simp [e] at h2
    exact ⟨dis_at h.dis hx h1 hne, dis_at h.dis h1 hx (Ne.symm hne)⟩
def putZ (z : TbZ) (x : Rt) (i : Int) : TbZ := { z with rc := (i :: z.rc.1.erase i, z.rc.2), sl := ⟨updF z.sl.pl i (some x), z.sl.n + 1, z.sl.most⟩, tr := z.tr.put (rP x) i, sk := addK z.sk (rP x) }
theorem okTb.put (h : okTb m z) {i : Int} {x : Rt} (hi : z.sl.pl i = none) (hr : 0 ≤ i ∧ i < m.most) (hg : goodR x = true) (hd : ∀ y ∈ m.L, coversP (rP x) (rP y) = false ∧ coversP (rP y) (rP x) = false) (hl : (m.L.length : Int) < m.most) : okTb (m.put x) (putZ z x i) := by
  have hs := good_sane hg
  have hio : i ∉ z.rc.1 := fun k => by have := (h.used i).2 k; rw [hi] at this; cases this
  have hxL : x ∉ m.L := fun k => by have := (hd x k).1; rw [covers_self hs] at this; cases this
  have e1 : m.L.filter (fun y => !decide (y = x)) = m.L := List.filter_eq_self.2 fun y hy => by
    have : y ≠ x := fun e => hxL (e ▸ hy)
    simp [this]
  have e2 : (putZ z x i).tr = ⟨insE z.tr.e (mkR (rP x) i), z.tr.k + 1⟩ := by unfold putZ TrM.put; rw [if_pos hs]
  have e3 : z.rc.1.erase i = z.rc.1 := List.erase_of_not_mem hio
  have eL : (m.put x).L = x :: m.L := by show x :: m.L.filter (fun y => !decide (y = x)) = _; rw [e1]
  have upn : ∀ j, j ≠ i → updF z.sl.pl i (some x) j = z.sl.pl j := fun j hj => by unfold updF; rw [if_neg hj]
  have upi : updF z.sl.pl i (some x) i = some x := by unfold updF; rw [if_pos rfl]
  have hsr : saneP (rP (mkR (rP x) i)) = true := hs
  refine ⟨h.pol, ?_, h.most, ?_, ?_, ?_, ?_, ?_, ?_, ?_, ?_, ?_, ?_, ?_, h.keepK _⟩
  · show addK z.sk (rP x) = addK m.sk (rP x)
    rw [h.sk]
  · rw [eL]
    have := h.n
    show z.sl.n + 1 = ((x :: m.L).length : Int) ∧ ((x :: m.L).length : Int) ≤ m.most
    rw [List.length_cons]
    omega
  · rw [eL]
    show (i :: z.rc.1.erase i).map (updF z.sl.pl i (some x)) = _
    rw [e3, List.map_cons, List.map_cons, upi, ← h.ord]
    congr 1
    exact List.map_congr_left fun j hj => upn j fun e => hio (e ▸ hj)
  · intro j
    show (updF z.sl.pl i (some x) j).isSome = true ↔ j ∈ i :: z.rc.1.erase i
    rw [e3, List.mem_cons]
    by_cases e : j = i
    · rw [e, upi]; simp
    · rw [upn j e, h.used j]; simp [e]
  · intro j hj
    have hj : j ∈ i :: z.rc.1.erase i := hj
    rw [e3] at hj
    rcases List.mem_cons.1 hj with rfl | hj
    · exact hr
    · exact h.rng j hj
  · show (i :: z.rc.1.erase i).Nodup
    rw [e3]
    exact List.nodup_cons.2 ⟨hio, h.nd⟩
  · rw [e2]; exact srt_insE h.srt _
  · rw [e2]; exact snn_insE h.snn hsr
  · intro r
    rw [e2]
    show r ∈ insE z.tr.e (mkR (rP x) i) ↔ saneP (rP r) = true ∧ ∃ y, updF z.sl.pl i (some x) r.2.2.2.2 = some y ∧ rP y = rP r
    rw [mem_insE h.snn hsr, h.tr]
    constructor
    · rintro (rfl | ⟨⟨h1, y, h2, h3⟩, h4⟩)
      · exact ⟨hs, x, upi, rfl⟩
      · refine ⟨h1, y, ?_, h3⟩
        rw [upn _ fun e => by rw [e, hi] at h2; cases h2]
        exact h2
    · rintro ⟨h1, y, h2, h3⟩
      by_cases e : r.2.2.2.2 = i
      · left
        rw [e, upi] at h2
        cases h2
        obtain ⟨a, b, c, d, v⟩ := r
        obtain ⟨p, q, s, t, u⟩ := x
        have h3 : (p, q, s, t) = (a, b, c, d) := h3
        have e : v = i := e
        cases h3
        subst e
        rfl
      · rw [upn _ e] at h2
        refine .inr ⟨⟨h1, y, h2, h3⟩, fun k => ?_⟩
        have k : rP r = rP x := k
        have hy : y ∈ m.L := h.mem.2 ⟨_, h2⟩
        have := (hd y hy).1
        rw [h3, k, covers_self hs] at this
        cases this
  · rw [e2]; show z.tr.k + 1 = m.k + 1; rw [h.k]
  · rw [eL]
    intro y hy
    rcases List.mem_cons.1 hy with rfl | hy
    · exact hg
    · exact h.good y hy
  · rw [eL]
    exact List.pairwise_cons.2 ⟨fun y hy => hd y hy, h.dis⟩
/-! ### finding -/
theorem covers_full {p : Pf} (hp : saneP p = true) (a : Ad) : coversP p (ofPf a (wd a.2.2)) = containsP p a := by
  rw [Bool.eq_iff_iff, covers_iff, contains_iff hp]
  have hb : bitsP (ofPf a (wd a.2.2)) = bitsA a := by
    rw [ofPf_pfx, show ((wd a.2.2 : Nat) : Int).toNat = wd a.2.2 from rfl, List.take_of_length_le (by rw [bitsA_length]; exact Nat.le_refl _)]
    exact pfx_bits (by rw [bitsA_length]; exact Nat.le_refl _)
  obtain ⟨p1, p2⟩ := bitsP_length hp
  rw [hb]
  have e : (bitsP p).length = p.2.2.2.toNat := by omega
  constructor
  · rintro ⟨_, _, h6, h⟩
    exact ⟨h6, by rw [← e]; exact List.prefix_iff_eq_take.1 h⟩
  · rintro ⟨h6, h⟩
    exact ⟨hp, of_wf a _, h6, List.prefix_iff_eq_take.2 (by rw [e]; exact h)⟩
theorem covers_chain {p q f : Pf} (h : coversP p f = true) (k : coversP q f = true) : coversP p q = true ∨ coversP q p = true := by
  obtain ⟨h1, h2, h3, h4⟩ := covers_iff.1 h
  obtain ⟨k1, _, k3, k4⟩ := covers_iff.1 k
  rcases Nat.le_total (bitsP p).length (bitsP q).length with hl | hl
  · exact .inl (covers_iff.2 ⟨h1, k1, h3.trans k3.symm, List.prefix_of_prefix_length_le h4 k4 hl⟩)
  · exact .inr (covers_iff.2 ⟨k1, h1, k3.trans h3.symm, List.prefix_of_prefix_length_le k4 h4 hl⟩)
theorem covers_trans {p q r : Pf} (h : coversP p q = true) (k : coversP q r = true) : coversP p r = true := by
  obtain ⟨h1, h2, h3, h4⟩ := covers_iff.1 h
  obtain ⟨_, k2, k3, k4⟩ := covers_iff.1 k
  exact covers_iff.2 ⟨h1, k2, h3.trans k3, h4.trans k4⟩
theorem okTb.one_covers (h : okTb m z) {f : Pf} {x y : Rt} (hx : x ∈ m.L) (hy : y ∈ m.L) (h1 : coversP (rP x) f = true) (h2 : coversP (rP y) f = true) : x = y := by
  by_cases e : x = y
  · exact e
  · rcases covers_chain h1 h2 with k | k
    · rw [dis_at h.dis hx hy e] at k; cases k
    · rw [dis_at h.dis hy hx (Ne.symm e)] at k; cases k
theorem okTb.entry (h : okTb m z) {r : Rt} (hr : r ∈ z.tr.e) : ∃ x, x ∈ m.L ∧ z.sl.pl r.2.2.2.2 = some x ∧ rP x = rP r := by
  obtain ⟨_, x, hx, e⟩ := (h.tr r).1 hr
  exact ⟨x, h.mem.2 ⟨_, hx⟩, hx, e⟩
theorem srt_single {e : List Rt} (h : Srt e) {p : Pf} (hp : ∀ r ∈ e, rP r = p) : e = [] ∨ ∃ r, e = [r] := by
  cases e with
  | nil => exact .inl rfl
  | cons a t =>
    cases t with
    | nil => exact .inr ⟨a, rfl⟩
    | cons b t =>
      have := (List.pairwise_cons.1 h).1 b List.mem_cons_self
      rw [hp a List.mem_cons_self, hp b (by simp)] at this
      exact absurd this (pLtB_irrefl _)
theorem okTb.above (h : okTb m z) (f : Pf) : (∃ x i, x ∈ m.L ∧ z.sl.pl i = some x ∧ coversP (rP x) f = true ∧ abvE z.tr.e f = [mkR (rP x) i]) ∨ (abvE z.tr.e f = [] ∧ ∀ x ∈ m.L, coversP (rP x) f = false) := by
  by_cases hex : ∃ x, x ∈ m.L ∧ coversP (rP x) f = true
  · obtain ⟨x, hx, hc⟩ := hex
    obtain ⟨i, hi⟩ := h.mem.1 hx
    refine .inl ⟨x, i, hx, hi, hc, ?_⟩
    have hs := (h.sane hi).2
    have hm : mkR (rP x) i ∈ abvE z.tr.e f := List.mem_filter.2 ⟨(h.tr _).2 ⟨hs, x, hi, rfl⟩, hc⟩
    have hp : ∀ r ∈ abvE z.tr.e f, rP r = rP x := by
      intro r hr
      obtain ⟨r1, r2⟩ := List.mem_filter.1 hr
      obtain ⟨y, hy, _, e⟩ := h.entry r1
      rw [← e, h.one_covers hy hx (by rw [e]; exact r2) hc]
    rcases srt_single (srt_filter h.srt _) hp with k | ⟨r, k⟩
    · have k : abvE z.tr.e f = [] := k
      rw [k] at hm
      cases hm
    · have k : abvE z.tr.e f = [r] := k
      rw [k] at hm ⊢
      rw [List.mem_singleton.1 hm]
  · have hn : ∀ x ∈ m.L, coversP (rP x) f = false := fun x hx => by
      cases hc : coversP (rP x) f with
      | false => rfl
      | true => exact absurd ⟨x, hx, hc⟩ hex
    refine .inr ⟨List.filter_eq_nil_iff.2 fun r hr hc => ?_, hn⟩
    obtain ⟨y, hy, _, e⟩ := h.entry hr
    have := hn y hy
    rw [e, hc] at this
    cases this
theorem okTb.find (h : okTb m z) (a : Ad) : (∃ x i, x ∈ m.L ∧ z.sl.pl i = some x ∧ m.find a = some x ∧ z.tr.longest a = [mkR (rP x) i]) ∨ (m.find a = none ∧ z.tr.longest a = []) := by
  have key : ∀ x ∈ m.L, coversP (rP x) (ofPf a (wd a.2.2)) = containsP (rP x) a := fun x hx => covers_full (good_sane (h.good x hx)) a
  rcases h.above (ofPf a (wd a.2.2)) with ⟨x, i, hx, hi, hc, he⟩ | ⟨he, hn⟩
  · refine .inl ⟨x, i, hx, hi, ?_, he⟩
    unfold Tb.find
    cases hf : m.L.find? fun r => containsP (rP r) a with
    | none =>
      have := List.find?_eq_none.1 hf x hx
      rw [← key x hx, hc] at this
      exact absurd rfl this
    | some y =>
      have hy := List.mem_of_find?_eq_some hf
      have hk := List.find?_some hf
      rw [← key y hy] at hk
      rw [h.one_covers hy hx hk hc]
  · refine .inr ⟨List.find?_eq_none.2 fun x hx hk => ?_, he⟩
    rw [← key x hx, hn x hx] at hk
    cases hk
/-! ### the one that goes -/
theorem insK_map {f : En → En} {key : En → Int} (hk : ∀ e, key (f e) = key e) (x : En) : ∀ l : List En, insK key (f x) (l.map f) = (insK key x l).map f
  | [] => rfl
  | y :: l => by
    simp only [List.map_cons, insK, hk]
    split
    · rfl
    · rw [List.map_cons, insK_map hk x l]
theorem isVK_map {f : En → En} {key : En → Int} (hk : ∀ e, key (f e) = key e) : ∀ l : List En, isVK key (l.map f) = (isVK key l).map f
  | [] => rfl
  | x :: l => by
    simp only [List.map_cons, isVK]
    rw [isVK_map hk l, insK_map hk]
theorem choose_map {g : Int → Int} (pol : Int) {l : List En} (hl : l.length ≠ 0) : (chooseK pol (l.map fun e => (g e.1, e.2))).1 = g (chooseK pol l).1 := by
  have hk : ∀ e : En, keyOf pol ((g e.1, e.2) : En) = keyOf pol e := fun e => by unfold keyOf; split <;> rfl
  have e : rankK pol (l.map fun e => (g e.1, e.2)) = (rankK pol l).map fun e => (g e.1, e.2) := by
    unfold rankK
    rw [← List.map_reverse, isVK_map (f := fun e : En => ((g e.1, e.2) : En)) hk]
  have hr := rankK_length pol l
  unfold chooseK
  rw [e]
  cases h : rankK pol l with
  | nil => rw [h] at hr; simp at hr; omega
  | cons a t => rfl
theorem okTb.len (h : okTb m z) : z.rc.1.length = m.L.length := by have := congrArg List.length h.ord; simpa using this
theorem okTb.at_ord (h : okTb m z) {j : Nat} (hj : j < m.L.length) : z.sl.pl (z.rc.1.getD j 0) = some (m.L.getD j zRt) := by
  have h1 := h.len
  have := congrArg (fun l => l[j]?) h.ord
  simp only [List.getElem?_map] at this
  rw [List.getElem?_eq_getElem (show j < z.rc.1.length by omega), List.getElem?_eq_getElem hj] at this
  rw [List.getD_eq_getElem?_getD, List.getD_eq_getElem?_getD, List.getElem?_eq_getElem (show j < z.rc.1.length by omega), List.getElem?_eq_getElem hj]
  simpa using this
theorem okTb.light (h : okTb m z) (hn : m.L.length ≠ 0) : LightOk { z with pol := m.pol, sk := m.sk } ∨ 7000 < m.k := by
  by_cases hk : m.k ≤ 7000
  · refine .inl ⟨?_, ?_, by show z.tr.k ≤ 7000; rw [h.k]; exact hk⟩
    · have := h.len
      have := h.n
      have := h.most
      show z.rc.1.length ≠ 0 ∧ z.rc.1.length ≤ 1024
      omega
    · intro i hi
      obtain ⟨x, hx⟩ := Option.isSome_iff_exists.1 ((h.used i).2 hi)
      exact ⟨x, hx, sane_wf (h.sane hx).2⟩
  · exact .inr (by omega)
theorem okTb.victim (h : okTb m z) (hn : m.L.length ≠ 0) : z.sl.pl (lightZ z) = some m.victim := by
  have e : entsZ z = m.ents.map fun e => (z.rc.1.getD e.1.toNat 0, e.2) := by
    apply List.ext_getElem?
    intro j
    unfold entsZ Tb.ents
    rw [List.getElem?_map, List.getElem?_map, List.getElem?_map]
    have h1 := h.len
    by_cases hj : j < m.L.length
    · have ha := h.at_ord hj
      rw [List.getElem?_eq_getElem (show j < z.rc.1.length by omega), List.getElem?_range hj]
      have e1 : z.rc.1.getD j 0 = z.rc.1[j] := by rw [List.getD_eq_getElem?_getD, List.getElem?_eq_getElem (show j < z.rc.1.length by omega)]; rfl
      rw [e1] at ha
      simp only [Option.map_some]
      rw [ha, h.sk]
      show some (z.rc.1[j], _) = some (z.rc.1.getD ((j : Int)).toNat 0, _)
      rw [show ((j : Int)).toNat = j from rfl, e1]
      rfl
    · rw [List.getElem?_eq_none (by omega), List.getElem?_eq_none (by rw [List.length_range]; omega)]
      rfl
  have he : m.ents.length ≠ 0 := by unfold Tb.ents; rw [List.length_map, List.length_range]; exact hn
  have hcm : (chooseK m.pol (m.ents.map fun e => (z.rc.1.getD e.1.toNat 0, e.2))).1 = z.rc.1.getD (chooseK m.pol m.ents).1.toNat 0 := choose_map (g := fun j : Int => z.rc.1.getD j.toNat 0) m.pol he
  unfold lightZ
  rw [h.pol, e, hcm]
  obtain ⟨c, hc, hc2⟩ := choose_mem (pol := m.pol) he
  unfold Tb.ents at hc
  obtain ⟨j, hj, rfl⟩ := List.mem_map.1 hc
  have hj := List.mem_range.1 hj
  unfold Tb.victim
  rw [hc2]
  exact h.at_ord hj
/-! ### what stays -/
theorem mem_drop {m : Tb} {x y : Rt} : y ∈ (m.drop x).L ↔ y ∈ m.L ∧ y ≠ x := by
  show y ∈ m.L.filter (fun y => !decide (y = x)) ↔ _
  rw [List.mem_filter]
  simp
theorem mem_minus {y : Rt} : ∀ {l : List Rt} {m : Tb}, y ∈ (m.minus l).L ↔ y ∈ m.L ∧ y ∉ l
  | [], m => by simp [Tb.minus]
  | x :: l, m => by
    show y ∈ ((m.drop x).minus l).L ↔ _
    rw [mem_minus, mem_drop, List.mem_cons]
    constructor
    · rintro ⟨⟨h1, h2⟩, h3⟩
      exact ⟨h1, fun k => k.elim h2 h3⟩
    · rintro ⟨h1, h2⟩
      exact ⟨⟨h1, fun k => h2 (.inl k)⟩, fun k => h2 (.inr k)⟩
theorem minus_same : ∀ (l : List Rt) (m : Tb), (m.minus l).most = m.most ∧ (m.minus l).pol = m.pol ∧ (m.minus l).sk = m.sk ∧ (m.minus l).k = m.k + l.length
  | [], m => ⟨rfl, rfl, rfl, rfl⟩
  | x :: l, m => by
    obtain ⟨h1, h2, h3, h4⟩ := minus_same l (m.drop x)
    refine ⟨h1, h2, h3, ?_⟩
    show ((m.drop x).minus l).k = m.k + (l.length + 1)
    rw [h4]
    show m.k + 1 + l.length = _
    omega
theorem minus_len : ∀ {l : List Rt} {m : Tb}, m.L.Nodup → l.Nodup → (∀ x ∈ l, x ∈ m.L) → (m.minus l).L.length + l.length = m.L.length
  | [], m, _, _, _ => rfl
  | x :: l, m, hn, hl, hs => by
    obtain ⟨l1, l2⟩ := List.nodup_cons.1 hl
    have hx := filter_ne_len hn (hs x List.mem_cons_self)
    have hn' : (m.drop x).L.Nodup := hn.filter _
    have := minus_len (l := l) (m := m.drop x) hn' l2 fun y hy => mem_drop.2 ⟨hs y (List.mem_cons_of_mem _ hy), fun e => l1 (e ▸ hy)⟩
    show ((m.drop x).minus l).L.length + (l.length + 1) = m.L.length
    have e : (m.drop x).L.length + 1 = m.L.length := hx
    omega
theorem okTb.part (h : okTb m z) (f : Rt → Bool) : (∀ x, x ∈ srtR (m.L.filter f) ↔ x ∈ m.L ∧ f x = true) ∧ (srtR (m.L.filter f)).Nodup := by
  have hs : ∀ x ∈ m.L.filter f, saneP (rP x) = true := fun x hx => good_sane (h.good x (List.mem_filter.1 hx).1)
  obtain ⟨k1, k2⟩ := srtR_of hs (List.Pairwise.filter _ (dis_ne h.good h.dis))
  exact ⟨fun x => by rw [k2, List.mem_filter], srt_nodup k1⟩
theorem okTb.minus_small (h : okTb m z) (f : Rt → Bool) : (m.minus (srtR (m.L.filter f))).k + (m.minus (srtR (m.L.filter f))).L.length = m.k + m.L.length ∧ (m.minus (srtR (m.L.filter f))).L.length ≤ m.L.length := by
  obtain ⟨k1, k2⟩ := h.part f
  have := minus_len (dis_nodup h.good h.dis) k2 fun x hx => ((k1 x).1 hx).1
  have := (minus_same (srtR (m.L.filter f)) m).2.2.2
  omega
theorem okTb.inside (h : okTb m z) (hk : m.k + m.L.length ≤ 7000) (f : Pf → Bool) : LeaveOk z (z.tr.e.filter fun r => f (rP r)) ∧ (z.tr.e.filter fun r => f (rP r)).map (atZ z) = srtR (m.L.filter fun x => f (rP x)) ∧ okTb (m.minus (srtR (m.L.filter fun x => f (rP x)))) (leavesZ z (z.tr.e.filter fun r => f (rP r))) := by
  obtain ⟨h1, h2⟩ := h.leaveOk (fun r => f (rP r)) hk
  have h3 := h.routes f
  refine ⟨h1, h3, ?_⟩
  rw [← h3]
  exact h.leaves (fun r hr => by obtain ⟨x, hx, _⟩ := h2 r hr; exact ⟨x, hx⟩) h1.nd
theorem lost_one (h : okTb m z) {p : Pf} : (∀ x ∈ m.L, coversP (rP x) p = false) → m.lost p = m.insd p := by
  intro hn
  unfold Tb.lost Tb.insd
  congr 1
  exact List.filter_congr fun x hx => by rw [hn x hx, Bool.or_false]
theorem lost_two (h : okTb m z) {p : Pf} {c : Rt} (hc : c ∈ m.L) (hcp : coversP (rP c) p = true) : m.lost p = srtR (m.L.filter fun x => coversP (rP x) p) := by
  unfold Tb.lost
  congr 1
  refine List.filter_congr fun x hx => ?_
  cases hpx : coversP p (rP x) with
  | false => rw [Bool.false_or]
  | true =>
    rw [Bool.true_or]
    have := covers_trans hcp hpx
    by_cases e : c = x
    · rw [← e]; exact hcp.symm
    · rw [dis_at h.dis hc hx e] at this
      cases this
theorem okTb.has (h : okTb m z) (p : Pf) : (∃ x i, z.sl.pl i = some x ∧ m.has p = some x ∧ getE z.tr.e p = some (mkR (rP x) i)) ∨ (m.has p = none ∧ getE z.tr.e p = none) := by
  cases hg : getE z.tr.e p with
  | none =>
    refine .inr ⟨List.find?_eq_none.2 fun x hx hk => ?_, rfl⟩
    obtain ⟨i, hi⟩ := h.mem.1 hx
    have := getE_none hg (mkR (rP x) i) ((h.tr _).2 ⟨(h.sane hi).2, x, hi, rfl⟩)
    exact this (by simpa using hk)
  | some r =>
    obtain ⟨h1, h2⟩ := getE_some hg
    obtain ⟨x, hx, hi, e⟩ := h.entry h1
    refine .inl ⟨x, r.2.2.2.2, hi, ?_, ?_⟩
    · unfold Tb.has
      cases hf : m.L.find? fun r => decide (rP r = p) with
      | none =>
        have := List.find?_eq_none.1 hf x hx
        rw [e, h2] at this
        simp at this
      | some y =>
        have hy := List.mem_of_find?_eq_some hf
        have hk : rP y = p := by simpa using List.find?_some hf
        rw [dis_inj h.good h.dis hy hx (by rw [hk, e, h2])]
    · obtain ⟨a, b, c, d, v⟩ := r
      unfold mkR
      rw [e]
theorem newTb_ok (most pol : Int) : okTb (Tb.new most pol) (newZ most pol) := by
  refine ⟨rfl, rfl, ⟨?_, rfl, ?_, ?_⟩, ⟨rfl, ?_⟩, rfl, fun i => ⟨fun h => (by cases h), fun h => (by cases h)⟩, fun i h => (by cases h), List.nodup_nil, List.Pairwise.nil, snn_nil, fun r => ⟨fun h => (by cases h), fun ⟨_, x, h, _⟩ => (by cases h)⟩, rfl, fun x h => (by cases h), List.Pairwise.nil, okK_new 2 64, (by decide +kernel : (newK 2 64).1.length = 128), (by decide +kernel : (newK 2 64).2 = 64)⟩
  · show (((max 0 (min most 1024)).toNat : Nat) : Int) = max 0 (min most 1024)
    omega
  · show 0 ≤ max 0 (min most 1024); omega
  · show max 0 (min most 1024) ≤ 1024; omega
  · show (0 : Int) ≤ max 0 (min most 1024); omega
theorem okTb.tick (h : okTb m z) : okTb m.tick { z with sk := decK z.sk } := by
  obtain ⟨k1, k2, k3⟩ := h.ksk
  exact ⟨h.pol, by show decK z.sk = decK m.sk; rw [h.sk], h.most, h.n, h.ord, h.used, h.rng, h.nd, h.srt, h.snn, h.tr, h.k, h.good, h.dis, okK_dec k1, by show ((decK m.sk).1).length = 128; unfold decK; rw [List.length_map]; exact k2, k3⟩
end
end Sp
end
