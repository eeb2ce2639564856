/- The law VictimLight, told of the program: kept by what its contract says. Written by row.py, a program of this work. -/
import Derived.Test.YtcilcmbailoeaaaRowK
import Derived.Test.YtcilcmbailoeaaaSxOp
import Derived.Test.YtcilcmbailoeaaaSpL12p
import Derived.WalkKit
import Derived.ProofKit
import Derived.OpenShut
import Derived.ShutString
import Derived.ChangeOld
import Derived.Below
import Derived.SizedLaws
namespace Go.Proofs.Ytcilcmbailoeaaa.victimLight
open Go.ChangeShapes Go.WideShapes Go.ChangeAt Go.RowKit
open Sx (RoOK wfT relV relVs)
set_option linter.unusedVariables false
set_option maxRecDepth 100000
theorem own : ownKnob Try.prog.godebug = none := RowK.own
theorem laidOut : laidOutB Try.prog = true := RowK.laid
theorem lifted (os : Os) (started : os.Started) (H : Type) (enc : TypeId × Value → H) :
    ReturnsInHanded {} Try.checked os 27 .any (Rows.victimLightSpec.pre6 enc Try.prog Try.f27 Rows.victimLightRow.domain false) (Rows.victimLightSpec.post enc Try.prog Try.f27 false true false false) := by
  refine returnsInHanded_of_change_sized (C := Try.checked) own started (by kernel_rfl) Try.func27
    (ChangeSpec.witness6 (enc := enc) (C := Try.checked) false ⟨#[], #[.slice none 0 0], []⟩ 8 (by kernel_rfl) (by kernel_rfl) (by kernel_rfl) (by kernel_rfl)) ?_
  intro W base args ds gs before hval0 hW hcnd hsz0 _
  have hval : ∀ (j : Nat) t v, Try.f27.params[j]? = some t → args[j]? = some v → Value.okWide Try.prog W .any base t v := hval0
  have hW' := hW
  obtain ⟨p, q, hA0, hV, rfl, hfz, hnd⟩ := hW
  have hA : DataW.TrodAll enc Try.prog W 0 (fun _ => true) true Try.f27.params.toList args.toList ds p := hA0
  rw [Try.params27] at hA hval
  obtain ⟨v0, vs0, d0, ds0, p0, q0, hargs, rfl, rfl, h0, r0⟩ := trodAll_cons hA
  obtain ⟨rfl, rfl, rfl⟩ := trodAll_nil r0
  obtain rfl : args = #[v0] := by cases args; simp_all
  obtain ⟨rfl, rfl⟩ := trodVars_none hV
  have k0 := h0
  have lt0 : ∀ x ∈ p0, x.block < W.heap.size := by obtain ⟨m, hm⟩ := k0; exact DataW.trod_lt m _ _ _ hm
  obtain ⟨x0, w0, ro0⟩ := Sx.open_rowF (n := 9) (ks := [.i .i64, .i .i64]) Try.underlying112 (by kernel_rfl) (by kernel_rfl) (by decide) (hval 0 112 v0 rfl rfl) h0
  refine Calls.mono (Sx.Good.law Sp.good_viclight (x0) (Sp.law_one x0 w0) (vs := [(v0, Sx.Ob.row false [.i .i64, .i .i64] x0)]) (List.forall_mem_cons.2 ⟨ro0, fun q hq => by simp at hq⟩) rfl ⟨Sx.ro_arg ro0 rfl, trivial⟩ (fun oc hoc y _ => by cases List.mem_singleton.1 hoc; rfl)) fun e W' ⟨he, bel⟩ => ?_
  subst he
  exact ⟨_, rfl, _, _, _, [], _, [], hW', trodAll_mk1 (shut_bool Try.underlying4 _), (trodAll_cons_mk (Below.trod laidOut (by kernel_rfl) (of_decide_eq_true (by kernel_rfl)) k0 bel lt0) trodAll_mk0), rfl, bel.frame _, fun h => by cases h⟩
theorem named : Try.prog.funcNamed Rows.victimLightRow.func = some 27 := by kernel_rfl
theorem c1 : Rows.victimLightRow.wf (OpenSpec.ofChange Rows.victimLightSpec) = true := by kernel_rfl
theorem c4 : Try.f27.params.all (Try.prog.readableRec ·) = true := by kernel_rfl
theorem c5 : namedTie Try.prog Rows.victimLightRow.named Rows.victimLightSpec.vars = true := by kernel_rfl
theorem c6 : (Rows.victimLightRow.stops == []) = true := by kernel_rfl
theorem c8 : (Rows.victimLightRow.knobs == []) = true := by kernel_rfl
theorem c10 : (Rows.victimLightRow.inPlace == Try.prog.inPlace 27) = true := by kernel_rfl
theorem c11 : (Rows.victimLightRow.unfollowed == Try.prog.unfollowed 27) = true := by kernel_rfl
theorem c12 : (Rows.victimLightRow.recurses == Try.prog.recurses 27) = true := by kernel_rfl
theorem c13 : (Rows.victimLightRow.named == Try.prog.varsNamed 27) = true := by kernel_rfl
theorem c14 : (Rows.victimLightRow.maps == (Try.f27.params.toList ++ Rows.victimLightSpec.plain.varTypes Try.prog).any (Try.prog.mapsRec ·)) = true := by kernel_rfl
theorem c15 : (Rows.victimLightRow.ifaces == (Try.f27.params.toList ++ Rows.victimLightSpec.plain.varTypes Try.prog).any (Try.prog.ifacesRec ·)) = true := by kernel_rfl
theorem c16 : (Rows.victimLightRow.mapsOut == Try.prog.mapsAmong Try.f27.resultTypes.toList) = true := by kernel_rfl
theorem c17 : (Rows.victimLightRow.loops == (Try.f27.params.toList ++ Rows.victimLightSpec.plain.varTypes Try.prog).any (Try.prog.loopsFrom ·)) = true := by kernel_rfl
theorem c18 : (Rows.victimLightRow.wideKeys == (Try.f27.params.toList ++ Rows.victimLightSpec.plain.varTypes Try.prog ++ Try.f27.resultTypes.toList).any (Try.prog.wideKeysFrom ·)) = true := by kernel_rfl
theorem c19 : Rows.victimLightSpec.vars.all (Try.prog.varReadable ·) = true := by kernel_rfl
theorem c20 : Try.f27.resultTypes.all (fun t => Try.prog.readableRec t && decide (t < Try.prog.types.size)) = true := by kernel_rfl
theorem c21 : (Rows.victimLightRow.ifacesOut == Try.f27.resultTypes.toList.any (Try.prog.ifacesRec ·)) = true := by kernel_rfl
theorem c22 : (Rows.victimLightRow.loopsOut == Try.f27.resultTypes.toList.any (Try.prog.loopsFrom ·)) = true := by kernel_rfl
theorem c24 : Rows.victimLightRow.shortTexts.isNone = true := by kernel_rfl
theorem c29 : (Rows.victimLightRow.kinds == (if Rows.victimLightRow.domain.isEmpty then [] else Try.f27.params.toList.map fun t => match Try.prog.underlying t with | some (.int k) => some k | _ => none)) = true := by kernel_rfl
theorem c30 : (Rows.victimLightRow.pinned == Rows.victimLightRow.pinnedBy) = true := by kernel_rfl
theorem c31 : (Rows.victimLightRow.veiled == (Try.f27.params.toList ++ Rows.victimLightSpec.plain.varTypes Try.prog ++ Try.f27.resultTypes.toList).any (Try.prog.veiledRec ·)) = true := by kernel_rfl
theorem c32 : Rows.victimLightRow.veiledFits Try.prog Try.f27.params.toList (Try.f27.params.toList ++ Rows.victimLightSpec.plain.varTypes Try.prog ++ Try.f27.resultTypes.toList) = true := by kernel_rfl
theorem c23 : (Rows.victimLightRow.plainKeys == Try.prog.plainKeys) = true := RowK.eq_of_true RowK.plain
theorem c27 : (Rows.victimLightRow.lifted == Try.prog.liftsFinal) = true := RowK.eq_of_false RowK.final
theorem c28 : (Try.prog.make == some Rows.victimLightRow.make) = true := by rw [RowK.make]; rfl
theorem closed : joinedFacts Try.prog 27 Try.f27 Rows.victimLightSpec Rows.victimLightRow = true := by
  unfold joinedFacts
  exact (RowK.both (RowK.both (RowK.both (RowK.both (RowK.both (RowK.both (RowK.both (RowK.both (RowK.both (RowK.both (RowK.both (RowK.both (RowK.both (RowK.both (RowK.both (RowK.both (RowK.both (RowK.both (RowK.both (RowK.both (RowK.both (RowK.both (RowK.both (RowK.both (RowK.both (RowK.both (RowK.both (RowK.both (RowK.both (RowK.both (RowK.both c1 RowK.laid) RowK.mapsR) c4) c5) c6) RowK.stops) c8) RowK.stopKnobs) c10) c11) c12) c13) c14) c15) c16) c17) c18) c19) c20) c21) c22) c23) c24) RowK.heard) RowK.enter) c27) c28) c29) c30) c31) c32)
theorem over : Rows.victimLightRow.holds Try.pinned (OpenSpec.ofChange Rows.victimLightSpec) :=
  OpenClaim.holds_of_wide 27 Try.f27 rfl rfl rfl rfl rfl rfl rfl ⟨rfl, rfl, rfl, rfl, rfl⟩ rfl rfl rfl rfl rfl named Try.func27 closed
    (of_decide_eq_true (by kernel_rfl)) (by unfold Func.isWrapper; first | (rw [if_pos (by decide +kernel)]; kernel_rfl) | (rw [if_neg (by decide +kernel)]; exact ⟨rfl, rfl⟩))
    (fun os started H enc _ => lifted os started H enc)
theorem proved : Rows.VictimLightSaid := over
#print axioms proved
end Go.Proofs.Ytcilcmbailoeaaa.victimLight
namespace Go.Proofs.Ytcilcmbailoeaaa
/-- The row, under a short name, for the claim. -/
theorem victimLight_holds : Rows.VictimLightSaid := victimLight.proved
end Go.Proofs.Ytcilcmbailoeaaa
