/- The law SketchNone, told of the program: kept by what its contract says. Written by row.py, a program of this work. -/
import Derived.Test.YthnhbnakpmkppaaRowK
import Derived.Test.YthnhbnakpmkppaaSxOp
import Derived.Test.YthnhbnakpmkppaaSpL11p
import Derived.WalkKit
import Derived.ProofKit
import Derived.OpenShut
import Derived.ShutString
import Derived.ChangeOld
import Derived.Below
import Derived.SizedLaws
namespace Go.Proofs.Ythnhbnakpmkppaa.sketchNone
open Go.ChangeShapes Go.WideShapes Go.ChangeAt Go.RowKit
open Sx (RoOK wfT relV relVs)
set_option linter.unusedVariables false
set_option maxRecDepth 100000
theorem own : ownKnob Try.prog.godebug = none := RowK.own
theorem laidOut : laidOutB Try.prog = true := RowK.laid
theorem lifted (os : Os) (started : os.Started) (H : Type) (enc : TypeId × Value → H) :
    ReturnsInHanded {} Try.checked os 4 .any (Rows.sketchNoneSpec.pre6 enc Try.prog Try.f4 Rows.sketchNoneRow.domain false) (Rows.sketchNoneSpec.post enc Try.prog Try.f4 false true false false) := by
  refine returnsInHanded_of_change_sized (C := Try.checked) own started (by kernel_rfl) Try.func4
    (ChangeSpec.witness6 (enc := enc) (C := Try.checked) false ⟨#[], #[.agg #[.int .u64 0, .int .u64 0, .bool false, .int .i64 0]], []⟩ 8 (by kernel_rfl) (by kernel_rfl) (by kernel_rfl) (by kernel_rfl)) ?_
  intro W base args ds gs before hval0 hW hcnd hsz0 _
  have hval : ∀ (j : Nat) t v, Try.f4.params[j]? = some t → args[j]? = some v → Value.okWide Try.prog W .any base t v := hval0
  have hW' := hW
  obtain ⟨p, q, hA0, hV, rfl, hfz, hnd⟩ := hW
  have hA : DataW.TrodAll enc Try.prog W 0 (fun _ => true) true Try.f4.params.toList args.toList ds p := hA0
  rw [Try.params4] at hA hval
  obtain ⟨v0, vs0, d0, ds0, p0, q0, hargs, rfl, rfl, h0, r0⟩ := trodAll_cons hA
  obtain ⟨rfl, rfl, rfl⟩ := trodAll_nil r0
  obtain rfl : args = #[v0] := by cases args; simp_all
  obtain ⟨rfl, rfl⟩ := trodVars_none hV
  have k0 := h0
  have lt0 : ∀ x ∈ p0, x.block < W.heap.size := by obtain ⟨m, hm⟩ := k0; exact DataW.trod_lt m _ _ _ hm
  obtain ⟨x0, rfl, w0⟩ := Sx.open_agg (n := 9) (ks := [.i .u64, .i .u64, .b, .i .i64]) Try.underlying27 (by kernel_rfl) (hval 0 27 v0 rfl rfl) h0
  refine Calls.mono (Sx.Good.law Sp.g_none11 (x0) (Sp.law_none11 x0 w0) (vs := []) (fun q hq => by simp at hq) rfl ⟨Sx.rel_agg w0, trivial⟩ (fun oc hoc y _ => by cases List.mem_singleton.1 hoc; rfl)) fun e W' ⟨he, bel⟩ => ?_
  subst he
  exact ⟨_, rfl, _, _, _, [], _, [], hW', trodAll_mk1 (shut_bool Try.underlying4 _), (trodAll_cons_mk (Below.trod laidOut (by kernel_rfl) (of_decide_eq_true (by kernel_rfl)) k0 bel lt0) trodAll_mk0), rfl, bel.frame _, fun h => by cases h⟩
theorem named : Try.prog.funcNamed Rows.sketchNoneRow.func = some 4 := by kernel_rfl
theorem c1 : Rows.sketchNoneRow.wf (OpenSpec.ofChange Rows.sketchNoneSpec) = true := by kernel_rfl
theorem c4 : Try.f4.params.all (Try.prog.readableRec ·) = true := by kernel_rfl
theorem c5 : namedTie Try.prog Rows.sketchNoneRow.named Rows.sketchNoneSpec.vars = true := by kernel_rfl
theorem c6 : (Rows.sketchNoneRow.stops == []) = true := by kernel_rfl
theorem c8 : (Rows.sketchNoneRow.knobs == []) = true := by kernel_rfl
theorem c10 : (Rows.sketchNoneRow.inPlace == Try.prog.inPlace 4) = true := by kernel_rfl
theorem c11 : (Rows.sketchNoneRow.unfollowed == Try.prog.unfollowed 4) = true := by kernel_rfl
theorem c12 : (Rows.sketchNoneRow.recurses == Try.prog.recurses 4) = true := by kernel_rfl
theorem c13 : (Rows.sketchNoneRow.named == Try.prog.varsNamed 4) = true := by kernel_rfl
theorem c14 : (Rows.sketchNoneRow.maps == (Try.f4.params.toList ++ Rows.sketchNoneSpec.plain.varTypes Try.prog).any (Try.prog.mapsRec ·)) = true := by kernel_rfl
theorem c15 : (Rows.sketchNoneRow.ifaces == (Try.f4.params.toList ++ Rows.sketchNoneSpec.plain.varTypes Try.prog).any (Try.prog.ifacesRec ·)) = true := by kernel_rfl
theorem c16 : (Rows.sketchNoneRow.mapsOut == Try.prog.mapsAmong Try.f4.resultTypes.toList) = true := by kernel_rfl
theorem c17 : (Rows.sketchNoneRow.loops == (Try.f4.params.toList ++ Rows.sketchNoneSpec.plain.varTypes Try.prog).any (Try.prog.loopsFrom ·)) = true := by kernel_rfl
theorem c18 : (Rows.sketchNoneRow.wideKeys == (Try.f4.params.toList ++ Rows.sketchNoneSpec.plain.varTypes Try.prog ++ Try.f4.resultTypes.toList).any (Try.prog.wideKeysFrom ·)) = true := by kernel_rfl
theorem c19 : Rows.sketchNoneSpec.vars.all (Try.prog.varReadable ·) = true := by kernel_rfl
theorem c20 : Try.f4.resultTypes.all (fun t => Try.prog.readableRec t && decide (t < Try.prog.types.size)) = true := by kernel_rfl
theorem c21 : (Rows.sketchNoneRow.ifacesOut == Try.f4.resultTypes.toList.any (Try.prog.ifacesRec ·)) = true := by kernel_rfl
theorem c22 : (Rows.sketchNoneRow.loopsOut == Try.f4.resultTypes.toList.any (Try.prog.loopsFrom ·)) = true := by kernel_rfl
theorem c24 : Rows.sketchNoneRow.shortTexts.isNone = true := by kernel_rfl
theorem c29 : (Rows.sketchNoneRow.kinds == (if Rows.sketchNoneRow.domain.isEmpty then [] else Try.f4.params.toList.map fun t => match Try.prog.underlying t with | some (.int k) => some k | _ => none)) = true := by kernel_rfl
theorem c30 : (Rows.sketchNoneRow.pinned == Rows.sketchNoneRow.pinnedBy) = true := by kernel_rfl
theorem c31 : (Rows.sketchNoneRow.veiled == (Try.f4.params.toList ++ Rows.sketchNoneSpec.plain.varTypes Try.prog ++ Try.f4.resultTypes.toList).any (Try.prog.veiledRec ·)) = true := by kernel_rfl
theorem c32 : Rows.sketchNoneRow.veiledFits Try.prog Try.f4.params.toList (Try.f4.params.toList ++ Rows.sketchNoneSpec.plain.varTypes Try.prog ++ Try.f4.resultTypes.toList) = true := by kernel_rfl
theorem c23 : (Rows.sketchNoneRow.plainKeys == Try.prog.plainKeys) = true := RowK.eq_of_true RowK.plain
theorem c27 : (Rows.sketchNoneRow.lifted == Try.prog.liftsFinal) = true := RowK.eq_of_false RowK.final
theorem c28 : (Try.prog.make == some Rows.sketchNoneRow.make) = true := by rw [RowK.make]; rfl
theorem closed : joinedFacts Try.prog 4 Try.f4 Rows.sketchNoneSpec Rows.sketchNoneRow = true := by
  unfold joinedFacts
  exact (RowK.both (RowK.both (RowK.both (RowK.both (RowK.both (RowK.both (RowK.both (RowK.both (RowK.both (RowK.both (RowK.both (RowK.both (RowK.both (RowK.both (RowK.both (RowK.both (RowK.both (RowK.both (RowK.both (RowK.both (RowK.both (RowK.both (RowK.both (RowK.both (RowK.both (RowK.both (RowK.both (RowK.both (RowK.both (RowK.both (RowK.both c1 RowK.laid) RowK.mapsR) c4) c5) c6) RowK.stops) c8) RowK.stopKnobs) c10) c11) c12) c13) c14) c15) c16) c17) c18) c19) c20) c21) c22) c23) c24) RowK.heard) RowK.enter) c27) c28) c29) c30) c31) c32)
theorem over : Rows.sketchNoneRow.holds Try.pinned (OpenSpec.ofChange Rows.sketchNoneSpec) :=
  OpenClaim.holds_of_wide 4 Try.f4 rfl rfl rfl rfl rfl rfl rfl ⟨rfl, rfl, rfl, rfl, rfl⟩ rfl rfl rfl rfl rfl named Try.func4 closed
    (of_decide_eq_true (by kernel_rfl)) (by unfold Func.isWrapper; first | (rw [if_pos (by decide +kernel)]; kernel_rfl) | (rw [if_neg (by decide +kernel)]; exact ⟨rfl, rfl⟩))
    (fun os started H enc _ => lifted os started H enc)
theorem proved : Rows.SketchNoneSaid := over
#print axioms proved
end Go.Proofs.Ythnhbnakpmkppaa.sketchNone
namespace Go.Proofs.Ythnhbnakpmkppaa
/-- The row, under a short name, for the claim. -/
theorem sketchNone_holds : Rows.SketchNoneSaid := sketchNone.proved
end Go.Proofs.Ythnhbnakpmkppaa
