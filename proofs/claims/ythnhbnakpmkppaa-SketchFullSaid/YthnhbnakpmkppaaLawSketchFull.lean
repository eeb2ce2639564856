/- The law SketchFull, told of the program: kept by what its contract says. Written by row.py, a program of this work. -/
import Derived.Test.YthnhbnakpmkppaaRowK
import Derived.Test.YthnhbnakpmkppaaSxOp
import Derived.Test.YthnhbnakpmkppaaSpL11r
import Derived.WalkKit
import Derived.ProofKit
import Derived.OpenShut
import Derived.ShutString
import Derived.ChangeOld
import Derived.Below
import Derived.SizedLaws
namespace Go.Proofs.Ythnhbnakpmkppaa.sketchFull
open Go.ChangeShapes Go.WideShapes Go.ChangeAt Go.RowKit
open Sx (RoOK wfT relV relVs)
set_option linter.unusedVariables false
set_option maxRecDepth 100000
theorem own : ownKnob Try.prog.godebug = none := RowK.own
theorem laidOut : laidOutB Try.prog = true := RowK.laid
theorem lifted (os : Os) (started : os.Started) (H : Type) (enc : TypeId × Value → H) :
    ReturnsInHanded {} Try.checked os 6 .any (Rows.sketchFullSpec.pre6 enc Try.prog Try.f6 Rows.sketchFullRow.domain false) (Rows.sketchFullSpec.post enc Try.prog Try.f6 false true false false) := by
  refine returnsInHanded_of_change_sized (C := Try.checked) own started (by kernel_rfl) Try.func6
    (ChangeSpec.witness6 (enc := enc) (C := Try.checked) false ⟨#[], #[.int .i64 0, .int .i64 0, .agg #[.int .u64 0, .int .u64 0, .bool false, .int .i64 0]], []⟩ 8 (by kernel_rfl) (by kernel_rfl) (by kernel_rfl) (by kernel_rfl)) ?_
  intro W base args ds gs before hval0 hW hcnd hsz0 _
  have hval : ∀ (j : Nat) t v, Try.f6.params[j]? = some t → args[j]? = some v → Value.okWide Try.prog W .any base t v := hval0
  have hW' := hW
  obtain ⟨p, q, hA0, hV, rfl, hfz, hnd⟩ := hW
  have hA : DataW.TrodAll enc Try.prog W 0 (fun _ => true) true Try.f6.params.toList args.toList ds p := hA0
  rw [Try.params6] at hA hval
  obtain ⟨v0, vs0, d0, ds0, p0, q0, hargs, rfl, rfl, h0, r0⟩ := trodAll_cons hA
  obtain ⟨v1, vs1, d1, ds1, p1, q1, rfl, rfl, rfl, h1, r1⟩ := trodAll_cons r0
  obtain ⟨v2, vs2, d2, ds2, p2, q2, rfl, rfl, rfl, h2, r2⟩ := trodAll_cons r1
  obtain ⟨rfl, rfl, rfl⟩ := trodAll_nil r2
  obtain rfl : args = #[v0, v1, v2] := by cases args; simp_all
  obtain ⟨rfl, rfl⟩ := trodVars_none hV
  have k0 := h0
  have lt0 : ∀ x ∈ p0, x.block < W.heap.size := by obtain ⟨m, hm⟩ := k0; exact DataW.trod_lt m _ _ _ hm
  obtain ⟨x0, rfl, _, _, u0⟩ := open_int Try.underlying3 (hval 0 3 v0 rfl rfl) h0
  have w0 := Sx.wf_int u0
  have k1 := h1
  have lt1 : ∀ x ∈ p1, x.block < W.heap.size := by obtain ⟨m, hm⟩ := k1; exact DataW.trod_lt m _ _ _ hm
  obtain ⟨x1, rfl, _, _, u1⟩ := open_int Try.underlying3 (hval 1 3 v1 rfl rfl) h1
  have w1 := Sx.wf_int u1
  have k2 := h2
  have lt2 : ∀ x ∈ p2, x.block < W.heap.size := by obtain ⟨m, hm⟩ := k2; exact DataW.trod_lt m _ _ _ hm
  obtain ⟨x2, rfl, w2⟩ := Sx.open_agg (n := 9) (ks := [.i .u64, .i .u64, .b, .i .i64]) Try.underlying27 (by kernel_rfl) (hval 2 27 v2 rfl rfl) h2
  refine Calls.mono (Sx.Good.law Sp.g_full11 (x0, x1, x2) (Sp.law_full11 x0 x1 x2 w0 w1 w2) (vs := []) (fun q hq => by simp at hq) rfl ⟨⟨w0, rfl⟩, ⟨w1, rfl⟩, Sx.rel_agg w2, trivial⟩ (fun oc hoc y _ => by cases List.mem_singleton.1 hoc; rfl)) fun e W' ⟨he, bel⟩ => ?_
  subst he
  exact ⟨_, rfl, _, _, _, [], _, [], hW', trodAll_mk1 (shut_bool Try.underlying4 _), (trodAll_cons_mk (Below.trod laidOut (by kernel_rfl) (of_decide_eq_true (by kernel_rfl)) k0 bel lt0) (trodAll_cons_mk (Below.trod laidOut (by kernel_rfl) (of_decide_eq_true (by kernel_rfl)) k1 bel lt1) (trodAll_cons_mk (Below.trod laidOut (by kernel_rfl) (of_decide_eq_true (by kernel_rfl)) k2 bel lt2) trodAll_mk0))), rfl, bel.frame _, fun h => by cases h⟩
theorem named : Try.prog.funcNamed Rows.sketchFullRow.func = some 6 := by kernel_rfl
theorem c1 : Rows.sketchFullRow.wf (OpenSpec.ofChange Rows.sketchFullSpec) = true := by kernel_rfl
theorem c4 : Try.f6.params.all (Try.prog.readableRec ·) = true := by kernel_rfl
theorem c5 : namedTie Try.prog Rows.sketchFullRow.named Rows.sketchFullSpec.vars = true := by kernel_rfl
theorem c6 : (Rows.sketchFullRow.stops == []) = true := by kernel_rfl
theorem c8 : (Rows.sketchFullRow.knobs == []) = true := by kernel_rfl
theorem c10 : (Rows.sketchFullRow.inPlace == Try.prog.inPlace 6) = true := by kernel_rfl
theorem c11 : (Rows.sketchFullRow.unfollowed == Try.prog.unfollowed 6) = true := by kernel_rfl
theorem c12 : (Rows.sketchFullRow.recurses == Try.prog.recurses 6) = true := by kernel_rfl
theorem c13 : (Rows.sketchFullRow.named == Try.prog.varsNamed 6) = true := by kernel_rfl
theorem c14 : (Rows.sketchFullRow.maps == (Try.f6.params.toList ++ Rows.sketchFullSpec.plain.varTypes Try.prog).any (Try.prog.mapsRec ·)) = true := by kernel_rfl
theorem c15 : (Rows.sketchFullRow.ifaces == (Try.f6.params.toList ++ Rows.sketchFullSpec.plain.varTypes Try.prog).any (Try.prog.ifacesRec ·)) = true := by kernel_rfl
theorem c16 : (Rows.sketchFullRow.mapsOut == Try.prog.mapsAmong Try.f6.resultTypes.toList) = true := by kernel_rfl
theorem c17 : (Rows.sketchFullRow.loops == (Try.f6.params.toList ++ Rows.sketchFullSpec.plain.varTypes Try.prog).any (Try.prog.loopsFrom ·)) = true := by kernel_rfl
theorem c18 : (Rows.sketchFullRow.wideKeys == (Try.f6.params.toList ++ Rows.sketchFullSpec.plain.varTypes Try.prog ++ Try.f6.resultTypes.toList).any (Try.prog.wideKeysFrom ·)) = true := by kernel_rfl
theorem c19 : Rows.sketchFullSpec.vars.all (Try.prog.varReadable ·) = true := by kernel_rfl
theorem c20 : Try.f6.resultTypes.all (fun t => Try.prog.readableRec t && decide (t < Try.prog.types.size)) = true := by kernel_rfl
theorem c21 : (Rows.sketchFullRow.ifacesOut == Try.f6.resultTypes.toList.any (Try.prog.ifacesRec ·)) = true := by kernel_rfl
theorem c22 : (Rows.sketchFullRow.loopsOut == Try.f6.resultTypes.toList.any (Try.prog.loopsFrom ·)) = true := by kernel_rfl
theorem c24 : Rows.sketchFullRow.shortTexts.isNone = true := by kernel_rfl
theorem c29 : (Rows.sketchFullRow.kinds == (if Rows.sketchFullRow.domain.isEmpty then [] else Try.f6.params.toList.map fun t => match Try.prog.underlying t with | some (.int k) => some k | _ => none)) = true := by kernel_rfl
theorem c30 : (Rows.sketchFullRow.pinned == Rows.sketchFullRow.pinnedBy) = true := by kernel_rfl
theorem c31 : (Rows.sketchFullRow.veiled == (Try.f6.params.toList ++ Rows.sketchFullSpec.plain.varTypes Try.prog ++ Try.f6.resultTypes.toList).any (Try.prog.veiledRec ·)) = true := by kernel_rfl
theorem c32 : Rows.sketchFullRow.veiledFits Try.prog Try.f6.params.toList (Try.f6.params.toList ++ Rows.sketchFullSpec.plain.varTypes Try.prog ++ Try.f6.resultTypes.toList) = true := by kernel_rfl
theorem c23 : (Rows.sketchFullRow.plainKeys == Try.prog.plainKeys) = true := RowK.eq_of_true RowK.plain
theorem c27 : (Rows.sketchFullRow.lifted == Try.prog.liftsFinal) = true := RowK.eq_of_false RowK.final
theorem c28 : (Try.prog.make == some Rows.sketchFullRow.make) = true := by rw [RowK.make]; rfl
theorem closed : joinedFacts Try.prog 6 Try.f6 Rows.sketchFullSpec Rows.sketchFullRow = true := by
  unfold joinedFacts
  exact (RowK.both (RowK.both (RowK.both (RowK.both (RowK.both (RowK.both (RowK.both (RowK.both (RowK.both (RowK.both (RowK.both (RowK.both (RowK.both (RowK.both (RowK.both (RowK.both (RowK.both (RowK.both (RowK.both (RowK.both (RowK.both (RowK.both (RowK.both (RowK.both (RowK.both (RowK.both (RowK.both (RowK.both (RowK.both (RowK.both (RowK.both c1 RowK.laid) RowK.mapsR) c4) c5) c6) RowK.stops) c8) RowK.stopKnobs) c10) c11) c12) c13) c14) c15) c16) c17) c18) c19) c20) c21) c22) c23) c24) RowK.heard) RowK.enter) c27) c28) c29) c30) c31) c32)
theorem over : Rows.sketchFullRow.holds Try.pinned (OpenSpec.ofChange Rows.sketchFullSpec) :=
  OpenClaim.holds_of_wide 6 Try.f6 rfl rfl rfl rfl rfl rfl rfl ⟨rfl, rfl, rfl, rfl, rfl⟩ rfl rfl rfl rfl rfl named Try.func6 closed
    (of_decide_eq_true (by kernel_rfl)) (by unfold Func.isWrapper; first | (rw [if_pos (by decide +kernel)]; kernel_rfl) | (rw [if_neg (by decide +kernel)]; exact ⟨rfl, rfl⟩))
    (fun os started H enc _ => lifted os started H enc)
theorem proved : Rows.SketchFullSaid := over
#print axioms proved
end Go.Proofs.Ythnhbnakpmkppaa.sketchFull
namespace Go.Proofs.Ythnhbnakpmkppaa
/-- The row, under a short name, for the claim. -/
theorem sketchFull_holds : Rows.SketchFullSaid := sketchFull.proved
end Go.Proofs.Ythnhbnakpmkppaa
