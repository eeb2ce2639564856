/- The law SketchApart, told of the program: kept by what its contract says. Written by row.py, a program of this work. -/
import Derived.Test.YthnhbnakpmkppaaRowK
import Derived.Test.YthnhbnakpmkppaaSxOp
import Derived.Test.YthnhbnakpmkppaaSpL11r
import Derived.WalkKit
import Derived.ProofKit
import Derived.OpenShut
import Derived.ShutString
import Derived.ChangeOld
import Derived.Below
import Derived.SizedLaws
namespace Go.Proofs.Ythnhbnakpmkppaa.sketchApart
open Go.ChangeShapes Go.WideShapes Go.ChangeAt Go.RowKit
open Sx (RoOK wfT relV relVs)
set_option linter.unusedVariables false
set_option maxRecDepth 100000
theorem own : ownKnob Try.prog.godebug = none := RowK.own
theorem laidOut : laidOutB Try.prog = true := RowK.laid
theorem lifted (os : Os) (started : os.Started) (H : Type) (enc : TypeId × Value → H) :
    ReturnsInHanded {} Try.checked os 7 .any (Rows.sketchApartSpec.pre6 enc Try.prog Try.f7 Rows.sketchApartRow.domain false) (Rows.sketchApartSpec.post enc Try.prog Try.f7 false true false false) := by
  refine returnsInHanded_of_change_sized (C := Try.checked) own started (by kernel_rfl) Try.func7
    (ChangeSpec.witness6 (enc := enc) (C := Try.checked) false ⟨#[], #[.int .i64 0, .int .i64 0, .slice none 0 0, .agg #[.int .u64 0, .int .u64 0, .bool false, .int .i64 0]], []⟩ 8 (by kernel_rfl) (by kernel_rfl) (by kernel_rfl) (by kernel_rfl)) ?_
  intro W base args ds gs before hval0 hW hcnd hsz0 _
  have hval : ∀ (j : Nat) t v, Try.f7.params[j]? = some t → args[j]? = some v → Value.okWide Try.prog W .any base t v := hval0
  have hW' := hW
  obtain ⟨p, q, hA0, hV, rfl, hfz, hnd⟩ := hW
  have hA : DataW.TrodAll enc Try.prog W 0 (fun _ => true) true Try.f7.params.toList args.toList ds p := hA0
  rw [Try.params7] at hA hval
  obtain ⟨v0, vs0, d0, ds0, p0, q0, hargs, rfl, rfl, h0, r0⟩ := trodAll_cons hA
  obtain ⟨v1, vs1, d1, ds1, p1, q1, rfl, rfl, rfl, h1, r1⟩ := trodAll_cons r0
  obtain ⟨v2, vs2, d2, ds2, p2, q2, rfl, rfl, rfl, h2, r2⟩ := trodAll_cons r1
  obtain ⟨v3, vs3, d3, ds3, p3, q3, rfl, rfl, rfl, h3, r3⟩ := trodAll_cons r2
  obtain ⟨rfl, rfl, rfl⟩ := trodAll_nil r3
  obtain rfl : args = #[v0, v1, v2, v3] := by cases args; simp_all
  obtain ⟨rfl, rfl⟩ := trodVars_none hV
  have k0 := h0
  have lt0 : ∀ x ∈ p0, x.block < W.heap.size := by obtain ⟨m, hm⟩ := k0; exact DataW.trod_lt m _ _ _ hm
  obtain ⟨x0, rfl, _, _, u0⟩ := open_int Try.underlying3 (hval 0 3 v0 rfl rfl) h0
  have w0 := Sx.wf_int u0
  have k1 := h1
  have lt1 : ∀ x ∈ p1, x.block < W.heap.size := by obtain ⟨m, hm⟩ := k1; exact DataW.trod_lt m _ _ _ hm
  obtain ⟨x1, rfl, _, _, u1⟩ := open_int Try.underlying3 (hval 1 3 v1 rfl rfl) h1
  have w1 := Sx.wf_int u1
  have k2 := h2
  have lt2 : ∀ x ∈ p2, x.block < W.heap.size := by obtain ⟨m, hm⟩ := k2; exact DataW.trod_lt m _ _ _ hm
  obtain ⟨x2, w2, ro2⟩ := Sx.open_rowF (n := 9) (ks := [.b, .i .u64, .i .u64, .b, .i .i64]) Try.underlying22 (by kernel_rfl) (by kernel_rfl) (by decide) (hval 2 22 v2 rfl rfl) h2
  have k3 := h3
  have lt3 : ∀ x ∈ p3, x.block < W.heap.size := by obtain ⟨m, hm⟩ := k3; exact DataW.trod_lt m _ _ _ hm
  obtain ⟨x3, rfl, w3⟩ := Sx.open_agg (n := 9) (ks := [.i .u64, .i .u64, .b, .i .i64]) Try.underlying27 (by kernel_rfl) (hval 3 27 v3 rfl rfl) h3
  refine Calls.mono (Sx.Good.law Sp.g_apart11 (x0, x1, x2, x3) (Sp.law_apart11 x0 x1 x2 x3 w0 w1 w2 w3) (vs := [(v2, Sx.Ob.row false [.b, .i .u64, .i .u64, .b, .i .i64] x2)]) (List.forall_mem_cons.2 ⟨ro2, fun q hq => by simp at hq⟩) rfl ⟨⟨w0, rfl⟩, ⟨w1, rfl⟩, Sx.ro_arg ro2 rfl, Sx.rel_agg w3, trivial⟩ (fun oc hoc y _ => by cases List.mem_singleton.1 hoc; rfl)) fun e W' ⟨he, bel⟩ => ?_
  subst he
  exact ⟨_, rfl, _, _, _, [], _, [], hW', trodAll_mk1 (shut_bool Try.underlying4 _), (trodAll_cons_mk (Below.trod laidOut (by kernel_rfl) (of_decide_eq_true (by kernel_rfl)) k0 bel lt0) (trodAll_cons_mk (Below.trod laidOut (by kernel_rfl) (of_decide_eq_true (by kernel_rfl)) k1 bel lt1) (trodAll_cons_mk (Below.trod laidOut (by kernel_rfl) (of_decide_eq_true (by kernel_rfl)) k2 bel lt2) (trodAll_cons_mk (Below.trod laidOut (by kernel_rfl) (of_decide_eq_true (by kernel_rfl)) k3 bel lt3) trodAll_mk0)))), rfl, bel.frame _, fun h => by cases h⟩
theorem named : Try.prog.funcNamed Rows.sketchApartRow.func = some 7 := by kernel_rfl
theorem c1 : Rows.sketchApartRow.wf (OpenSpec.ofChange Rows.sketchApartSpec) = true := by kernel_rfl
theorem c4 : Try.f7.params.all (Try.prog.readableRec ·) = true := by kernel_rfl
theorem c5 : namedTie Try.prog Rows.sketchApartRow.named Rows.sketchApartSpec.vars = true := by kernel_rfl
theorem c6 : (Rows.sketchApartRow.stops == []) = true := by kernel_rfl
theorem c8 : (Rows.sketchApartRow.knobs == []) = true := by kernel_rfl
theorem c10 : (Rows.sketchApartRow.inPlace == Try.prog.inPlace 7) = true := by kernel_rfl
theorem c11 : (Rows.sketchApartRow.unfollowed == Try.prog.unfollowed 7) = true := by kernel_rfl
theorem c12 : (Rows.sketchApartRow.recurses == Try.prog.recurses 7) = true := by kernel_rfl
theorem c13 : (Rows.sketchApartRow.named == Try.prog.varsNamed 7) = true := by kernel_rfl
theorem c14 : (Rows.sketchApartRow.maps == (Try.f7.params.toList ++ Rows.sketchApartSpec.plain.varTypes Try.prog).any (Try.prog.mapsRec ·)) = true := by kernel_rfl
theorem c15 : (Rows.sketchApartRow.ifaces == (Try.f7.params.toList ++ Rows.sketchApartSpec.plain.varTypes Try.prog).any (Try.prog.ifacesRec ·)) = true := by kernel_rfl
theorem c16 : (Rows.sketchApartRow.mapsOut == Try.prog.mapsAmong Try.f7.resultTypes.toList) = true := by kernel_rfl
theorem c17 : (Rows.sketchApartRow.loops == (Try.f7.params.toList ++ Rows.sketchApartSpec.plain.varTypes Try.prog).any (Try.prog.loopsFrom ·)) = true := by kernel_rfl
theorem c18 : (Rows.sketchApartRow.wideKeys == (Try.f7.params.toList ++ Rows.sketchApartSpec.plain.varTypes Try.prog ++ Try.f7.resultTypes.toList).any (Try.prog.wideKeysFrom ·)) = true := by kernel_rfl
theorem c19 : Rows.sketchApartSpec.vars.all (Try.prog.varReadable ·) = true := by kernel_rfl
theorem c20 : Try.f7.resultTypes.all (fun t => Try.prog.readableRec t && decide (t < Try.prog.types.size)) = true := by kernel_rfl
theorem c21 : (Rows.sketchApartRow.ifacesOut == Try.f7.resultTypes.toList.any (Try.prog.ifacesRec ·)) = true := by kernel_rfl
theorem c22 : (Rows.sketchApartRow.loopsOut == Try.f7.resultTypes.toList.any (Try.prog.loopsFrom ·)) = true := by kernel_rfl
theorem c24 : Rows.sketchApartRow.shortTexts.isNone = true := by kernel_rfl
theorem c29 : (Rows.sketchApartRow.kinds == (if Rows.sketchApartRow.domain.isEmpty then [] else Try.f7.params.toList.map fun t => match Try.prog.underlying t with | some (.int k) => some k | _ => none)) = true := by kernel_rfl
theorem c30 : (Rows.sketchApartRow.pinned == Rows.sketchApartRow.pinnedBy) = true := by kernel_rfl
theorem c31 : (Rows.sketchApartRow.veiled == (Try.f7.params.toList ++ Rows.sketchApartSpec.plain.varTypes Try.prog ++ Try.f7.resultTypes.toList).any (Try.prog.veiledRec ·)) = true := by kernel_rfl
theorem c32 : Rows.sketchApartRow.veiledFits Try.prog Try.f7.params.toList (Try.f7.params.toList ++ Rows.sketchApartSpec.plain.varTypes Try.prog ++ Try.f7.resultTypes.toList) = true := by kernel_rfl
theorem c23 : (Rows.sketchApartRow.plainKeys == Try.prog.plainKeys) = true := RowK.eq_of_true RowK.plain
theorem c27 : (Rows.sketchApartRow.lifted == Try.prog.liftsFinal) = true := RowK.eq_of_false RowK.final
theorem c28 : (Try.prog.make == some Rows.sketchApartRow.make) = true := by rw [RowK.make]; rfl
theorem closed : joinedFacts Try.prog 7 Try.f7 Rows.sketchApartSpec Rows.sketchApartRow = true := by
  unfold joinedFacts
  exact (RowK.both (RowK.both (RowK.both (RowK.both (RowK.both (RowK.both (RowK.both (RowK.both (RowK.both (RowK.both (RowK.both (RowK.both (RowK.both (RowK.both (RowK.both (RowK.both (RowK.both (RowK.both (RowK.both (RowK.both (RowK.both (RowK.both (RowK.both (RowK.both (RowK.both (RowK.both (RowK.both (RowK.both (RowK.both (RowK.both (RowK.both c1 RowK.laid) RowK.mapsR) c4) c5) c6) RowK.stops) c8) RowK.stopKnobs) c10) c11) c12) c13) c14) c15) c16) c17) c18) c19) c20) c21) c22) c23) c24) RowK.heard) RowK.enter) c27) c28) c29) c30) c31) c32)
theorem over : Rows.sketchApartRow.holds Try.pinned (OpenSpec.ofChange Rows.sketchApartSpec) :=
  OpenClaim.holds_of_wide 7 Try.f7 rfl rfl rfl rfl rfl rfl rfl ⟨rfl, rfl, rfl, rfl, rfl⟩ rfl rfl rfl rfl rfl named Try.func7 closed
    (of_decide_eq_true (by kernel_rfl)) (by unfold Func.isWrapper; first | (rw [if_pos (by decide +kernel)]; kernel_rfl) | (rw [if_neg (by decide +kernel)]; exact ⟨rfl, rfl⟩))
    (fun os started H enc _ => lifted os started H enc)
theorem proved : Rows.SketchApartSaid := over
#print axioms proved
end Go.Proofs.Ythnhbnakpmkppaa.sketchApart
namespace Go.Proofs.Ythnhbnakpmkppaa
/-- The row, under a short name, for the claim. -/
theorem sketchApart_holds : Rows.SketchApartSaid := sketchApart.proved
end Go.Proofs.Ythnhbnakpmkppaa
