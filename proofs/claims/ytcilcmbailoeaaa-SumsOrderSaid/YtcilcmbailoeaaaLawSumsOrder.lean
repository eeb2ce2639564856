-- Written by kprint.py, a program of this session, over the kit's print.py; functions marked HAND are our own texts.
import Derived.Test.YtcilcmbailoeaaaRowK
import Derived.Test.YtcilcmbailoeaaaKSx2
import Derived.Test.YtcilcmbailoeaaaPureSumsOrder
import Derived.WalkKit
import Derived.ProofKit
import Derived.OpenShut
import Derived.ShutString
import Derived.ChangeOld
import Derived.Below
import Derived.SizedLaws
namespace Go.Proofs.Ytcilcmbailoeaaa.sumsOrder
open Go.ChangeShapes Go.WideShapes Go.ChangeAt Go.RowKit
open Go.ChangeMaps (open_string shut_string)
set_option linter.unusedVariables false
theorem own : ownKnob Try.prog.godebug = none := RowK.own
set_option maxRecDepth 100000 in
theorem lifted (os : Os) (started : os.Started) (H : Type) (enc : TypeId × Value → H) :
    ReturnsInHanded {} Try.checked os 4 .any (Rows.sumsOrderSpec.pre6 enc Try.prog Try.f4 Rows.sumsOrderRow.domain false) (Rows.sumsOrderSpec.post enc Try.prog Try.f4 false true false false) := by
  refine returnsInHanded_of_change_sized (C := Try.checked) own started (by kernel_rfl) Try.func4
    (ChangeSpec.witness6 (enc := enc) (C := Try.checked) false ⟨#[], #[.int .u16 0, .int .u16 0, .int .u16 0], []⟩ 8 (by kernel_rfl) (by kernel_rfl) (by kernel_rfl) (by kernel_rfl)) ?_
  intro W base args ds gs before hval0 hW hcnd hsz0 _
  have hsz : (DataW.weightsEach Try.prog (Try.f4.params.toList ++ Rows.sumsOrderSpec.plain.varTypes Try.prog) (ds ++ gs)).all (· ≤ reachBytes) = true := hsz0
  have hval : ∀ (j : Nat) t v, Try.f4.params[j]? = some t → args[j]? = some v → Value.okWide Try.prog W .any base t v := hval0
  have hW' := hW
  obtain ⟨p, q, hA0, hV, rfl, hfz, hnd⟩ := hW
  have hA : DataW.TrodAll enc Try.prog W 0 (fun _ => true) true Try.f4.params.toList args.toList ds p := hA0
  rw [Try.params4] at hA hval hsz
  obtain ⟨v0, vs0, d0, ds0, p0, q0, hargs, rfl, rfl, h0, r0⟩ := trodAll_cons hA
  obtain ⟨v1, vs1, d1, ds1, p1, q1, rfl, rfl, rfl, h1, r1⟩ := trodAll_cons r0
  obtain ⟨v2, vs2, d2, ds2, p2, q2, rfl, rfl, rfl, h2, r2⟩ := trodAll_cons r1
  obtain ⟨rfl, rfl, rfl⟩ := trodAll_nil r2
  obtain rfl : args = #[v0, v1, v2] := by cases args; simp_all
  obtain ⟨rfl, rfl⟩ := trodVars_none hV
  obtain ⟨a0, rfl, rfl, rfl, w0⟩ := open_int Try.underlying24 (hval 0 24 v0 rfl rfl) h0
  obtain ⟨a1, rfl, rfl, rfl, w1⟩ := open_int Try.underlying24 (hval 1 24 v1 rfl rfl) h1
  obtain ⟨a2, rfl, rfl, rfl, w2⟩ := open_int Try.underlying24 (hval 2 24 v2 rfl rfl) h2
  clear hA0 hval0 hsz0 hsz
  refine (KS.kedgelaw19_SumsOrder.walk Pure.SumsOrder a0 a1 a2 W w0 w1 w2).mono fun e W' ⟨he, bel⟩ => ?_
  subst he
  exact ⟨_, rfl, _, _, _, [], _, [], hW', trodAll_mk1 (shut_bool Try.underlying4 _), (trodAll_cons_mk (shut_int Try.underlying24 w0) (trodAll_cons_mk (shut_int Try.underlying24 w1) (trodAll_cons_mk (shut_int Try.underlying24 w2) trodAll_mk0))), rfl, bel.frame _, fun h => by cases h⟩
theorem named : Try.prog.funcNamed Rows.sumsOrderRow.func = some 4 := by kernel_rfl
theorem c1 : Rows.sumsOrderRow.wf (OpenSpec.ofChange Rows.sumsOrderSpec) = true := by kernel_rfl
theorem c4 : Try.f4.params.all (Try.prog.readableRec ·) = true := by kernel_rfl
theorem c5 : namedTie Try.prog Rows.sumsOrderRow.named Rows.sumsOrderSpec.vars = true := by kernel_rfl
theorem c6 : (Rows.sumsOrderRow.stops == []) = true := by kernel_rfl
theorem c8 : (Rows.sumsOrderRow.knobs == []) = true := by kernel_rfl
theorem c10 : (Rows.sumsOrderRow.inPlace == Try.prog.inPlace 4) = true := by kernel_rfl
theorem c11 : (Rows.sumsOrderRow.unfollowed == Try.prog.unfollowed 4) = true := by kernel_rfl
theorem c12 : (Rows.sumsOrderRow.recurses == Try.prog.recurses 4) = true := by kernel_rfl
theorem c13 : (Rows.sumsOrderRow.named == Try.prog.varsNamed 4) = true := by kernel_rfl
theorem c14 : (Rows.sumsOrderRow.maps == (Try.f4.params.toList ++ Rows.sumsOrderSpec.plain.varTypes Try.prog).any (Try.prog.mapsRec ·)) = true := by kernel_rfl
theorem c15 : (Rows.sumsOrderRow.ifaces == (Try.f4.params.toList ++ Rows.sumsOrderSpec.plain.varTypes Try.prog).any (Try.prog.ifacesRec ·)) = true := by kernel_rfl
theorem c16 : (Rows.sumsOrderRow.mapsOut == Try.prog.mapsAmong Try.f4.resultTypes.toList) = true := by kernel_rfl
theorem c17 : (Rows.sumsOrderRow.loops == (Try.f4.params.toList ++ Rows.sumsOrderSpec.plain.varTypes Try.prog).any (Try.prog.loopsFrom ·)) = true := by kernel_rfl
theorem c18 : (Rows.sumsOrderRow.wideKeys == (Try.f4.params.toList ++ Rows.sumsOrderSpec.plain.varTypes Try.prog ++ Try.f4.resultTypes.toList).any (Try.prog.wideKeysFrom ·)) = true := by kernel_rfl
theorem c19 : Rows.sumsOrderSpec.vars.all (Try.prog.varReadable ·) = true := by kernel_rfl
theorem c20 : Try.f4.resultTypes.all (fun t => Try.prog.readableRec t && decide (t < Try.prog.types.size)) = true := by kernel_rfl
theorem c21 : (Rows.sumsOrderRow.ifacesOut == Try.f4.resultTypes.toList.any (Try.prog.ifacesRec ·)) = true := by kernel_rfl
theorem c22 : (Rows.sumsOrderRow.loopsOut == Try.f4.resultTypes.toList.any (Try.prog.loopsFrom ·)) = true := by kernel_rfl
theorem c24 : Rows.sumsOrderRow.shortTexts.isNone = true := by kernel_rfl
theorem c29 : (Rows.sumsOrderRow.kinds == (if Rows.sumsOrderRow.domain.isEmpty then [] else Try.f4.params.toList.map fun t => match Try.prog.underlying t with | some (.int k) => some k | _ => none)) = true := by kernel_rfl
theorem c30 : (Rows.sumsOrderRow.pinned == Rows.sumsOrderRow.pinnedBy) = true := by kernel_rfl
theorem c31 : (Rows.sumsOrderRow.veiled == (Try.f4.params.toList ++ Rows.sumsOrderSpec.plain.varTypes Try.prog ++ Try.f4.resultTypes.toList).any (Try.prog.veiledRec ·)) = true := by kernel_rfl
theorem c32 : Rows.sumsOrderRow.veiledFits Try.prog Try.f4.params.toList (Try.f4.params.toList ++ Rows.sumsOrderSpec.plain.varTypes Try.prog ++ Try.f4.resultTypes.toList) = true := by kernel_rfl
theorem c23 : (Rows.sumsOrderRow.plainKeys == Try.prog.plainKeys) = true := RowK.eq_of_true RowK.plain
theorem c27 : (Rows.sumsOrderRow.lifted == Try.prog.liftsFinal) = true := RowK.eq_of_false RowK.final
theorem c28 : (Try.prog.make == some Rows.sumsOrderRow.make) = true := by rw [RowK.make]; rfl
set_option maxRecDepth 100000 in
theorem closed : joinedFacts Try.prog 4 Try.f4 Rows.sumsOrderSpec Rows.sumsOrderRow = true := by
  unfold joinedFacts
  exact (RowK.both (RowK.both (RowK.both (RowK.both (RowK.both (RowK.both (RowK.both (RowK.both (RowK.both (RowK.both (RowK.both (RowK.both (RowK.both (RowK.both (RowK.both (RowK.both (RowK.both (RowK.both (RowK.both (RowK.both (RowK.both (RowK.both (RowK.both (RowK.both (RowK.both (RowK.both (RowK.both (RowK.both (RowK.both (RowK.both (RowK.both c1 RowK.laid) RowK.mapsR) c4) c5) c6) RowK.stops) c8) RowK.stopKnobs) c10) c11) c12) c13) c14) c15) c16) c17) c18) c19) c20) c21) c22) c23) c24) RowK.heard) RowK.enter) c27) c28) c29) c30) c31) c32)
theorem over : Rows.sumsOrderRow.holds Try.pinned (OpenSpec.ofChange Rows.sumsOrderSpec) :=
  OpenClaim.holds_of_wide 4 Try.f4 rfl rfl rfl rfl rfl rfl rfl ⟨rfl, rfl, rfl, rfl, rfl⟩ rfl rfl rfl rfl rfl named Try.func4 closed
    (of_decide_eq_true (by kernel_rfl)) (by unfold Func.isWrapper; first | (rw [if_pos (by decide +kernel)]; kernel_rfl) | (rw [if_neg (by decide +kernel)]; exact ⟨rfl, rfl⟩))
    (fun os started H enc _ => lifted os started H enc)
theorem proved : Rows.SumsOrderSaid := over
#print axioms proved
end Go.Proofs.Ytcilcmbailoeaaa.sumsOrder
namespace Go.Proofs.Ytcilcmbailoeaaa
/-- The row, under a short name, for the claim. -/
theorem sumsOrder_holds : Rows.SumsOrderSaid := sumsOrder.proved
end Go.Proofs.Ytcilcmbailoeaaa
