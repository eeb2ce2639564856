/- The law Ipv4Back, told of the program: kept by what its contract says. Written by row.py, a program of this work. -/
import Derived.Test.YtcilcmbailoeaaaRowK
import Derived.Test.YtcilcmbailoeaaaSxOp
import Derived.Test.YtcilcmbailoeaaaSpL20q
import Derived.WalkKit
import Derived.ProofKit
import Derived.OpenShut
import Derived.ShutString
import Derived.ChangeOld
import Derived.Below
import Derived.SizedLaws
namespace Go.Proofs.Ytcilcmbailoeaaa.ipv4Back
open Go.ChangeShapes Go.WideShapes Go.ChangeAt Go.RowKit
open Sx (RoOK wfT relV relVs)
set_option linter.unusedVariables false
set_option maxRecDepth 100000
theorem own : ownKnob Try.prog.godebug = none := RowK.own
theorem laidOut : laidOutB Try.prog = true := RowK.laid
theorem lifted (os : Os) (started : os.Started) (H : Type) (enc : TypeId × Value → H) :
    ReturnsInHanded {} Try.checked os 16 .any (Rows.ipv4BackSpec.pre6 enc Try.prog Try.f16 Rows.ipv4BackRow.domain false) (Rows.ipv4BackSpec.post enc Try.prog Try.f16 false true false false) := by
  refine returnsInHanded_of_change_sized (C := Try.checked) own started (by kernel_rfl) Try.func16
    (ChangeSpec.witness6 (enc := enc) (C := Try.checked) false ⟨#[], #[.agg #[.int .i64 0, .int .i64 0, .int .i64 0, .int .i64 0, .int .u64 0, .int .u64 0, .bool false, .int .u64 0, .int .u64 0, .bool false], .slice none 0 0], []⟩ 8 (by kernel_rfl) (by kernel_rfl) (by kernel_rfl) (by kernel_rfl)) ?_
  intro W base args ds gs before hval0 hW hcnd hsz0 _
  have hval : ∀ (j : Nat) t v, Try.f16.params[j]? = some t → args[j]? = some v → Value.okWide Try.prog W .any base t v := hval0
  have hW' := hW
  obtain ⟨p, q, hA0, hV, rfl, hfz, hnd⟩ := hW
  have hA : DataW.TrodAll enc Try.prog W 0 (fun _ => true) true Try.f16.params.toList args.toList ds p := hA0
  rw [Try.params16] at hA hval
  obtain ⟨v0, vs0, d0, ds0, p0, q0, hargs, rfl, rfl, h0, r0⟩ := trodAll_cons hA
  obtain ⟨v1, vs1, d1, ds1, p1, q1, rfl, rfl, rfl, h1, r1⟩ := trodAll_cons r0
  obtain ⟨rfl, rfl, rfl⟩ := trodAll_nil r1
  obtain rfl : args = #[v0, v1] := by cases args; simp_all
  obtain ⟨rfl, rfl⟩ := trodVars_none hV
  have k0 := h0
  have lt0 : ∀ x ∈ p0, x.block < W.heap.size := by obtain ⟨m, hm⟩ := k0; exact DataW.trod_lt m _ _ _ hm
  obtain ⟨x0, rfl, w0⟩ := Sx.open_agg (n := 9) (ks := [.i .i64, .i .i64, .i .i64, .i .i64, .i .u64, .i .u64, .b, .i .u64, .i .u64, .b]) Try.underlying82 (by kernel_rfl) (hval 0 82 v0 rfl rfl) h0
  have k1 := h1
  have lt1 : ∀ x ∈ p1, x.block < W.heap.size := by obtain ⟨m, hm⟩ := k1; exact DataW.trod_lt m _ _ _ hm
  obtain ⟨x1, w1, ro1⟩ := Sx.open_rowF (n := 9) (ks := [.i .u8]) Try.underlying22 (by kernel_rfl) (by kernel_rfl) (by decide) (hval 1 22 v1 rfl rfl) h1
  refine Calls.mono (Sx.Good.law Sp.g_back4 (x0, x1) (Sp.law_back4 x0 x1 w0 w1) (vs := [(v1, Sx.Ob.row false [.i .u8] x1)]) (List.forall_mem_cons.2 ⟨ro1, fun q hq => by simp at hq⟩) rfl ⟨Sx.rel_agg w0, Sx.ro_arg ro1 rfl, trivial⟩ (fun oc hoc y _ => by cases List.mem_singleton.1 hoc; rfl)) fun e W' ⟨he, bel⟩ => ?_
  subst he
  exact ⟨_, rfl, _, _, _, [], _, [], hW', trodAll_mk1 (shut_bool Try.underlying4 _), (trodAll_cons_mk (Below.trod laidOut (by kernel_rfl) (of_decide_eq_true (by kernel_rfl)) k0 bel lt0) (trodAll_cons_mk (Below.trod laidOut (by kernel_rfl) (of_decide_eq_true (by kernel_rfl)) k1 bel lt1) trodAll_mk0)), rfl, bel.frame _, fun h => by cases h⟩
theorem named : Try.prog.funcNamed Rows.ipv4BackRow.func = some 16 := by kernel_rfl
theorem c1 : Rows.ipv4BackRow.wf (OpenSpec.ofChange Rows.ipv4BackSpec) = true := by kernel_rfl
theorem c4 : Try.f16.params.all (Try.prog.readableRec ·) = true := by kernel_rfl
theorem c5 : namedTie Try.prog Rows.ipv4BackRow.named Rows.ipv4BackSpec.vars = true := by kernel_rfl
theorem c6 : (Rows.ipv4BackRow.stops == []) = true := by kernel_rfl
theorem c8 : (Rows.ipv4BackRow.knobs == []) = true := by kernel_rfl
theorem c10 : (Rows.ipv4BackRow.inPlace == Try.prog.inPlace 16) = true := by kernel_rfl
theorem c11 : (Rows.ipv4BackRow.unfollowed == Try.prog.unfollowed 16) = true := by kernel_rfl
theorem c12 : (Rows.ipv4BackRow.recurses == Try.prog.recurses 16) = true := by kernel_rfl
theorem c13 : (Rows.ipv4BackRow.named == Try.prog.varsNamed 16) = true := by kernel_rfl
theorem c14 : (Rows.ipv4BackRow.maps == (Try.f16.params.toList ++ Rows.ipv4BackSpec.plain.varTypes Try.prog).any (Try.prog.mapsRec ·)) = true := by kernel_rfl
theorem c15 : (Rows.ipv4BackRow.ifaces == (Try.f16.params.toList ++ Rows.ipv4BackSpec.plain.varTypes Try.prog).any (Try.prog.ifacesRec ·)) = true := by kernel_rfl
theorem c16 : (Rows.ipv4BackRow.mapsOut == Try.prog.mapsAmong Try.f16.resultTypes.toList) = true := by kernel_rfl
theorem c17 : (Rows.ipv4BackRow.loops == (Try.f16.params.toList ++ Rows.ipv4BackSpec.plain.varTypes Try.prog).any (Try.prog.loopsFrom ·)) = true := by kernel_rfl
theorem c18 : (Rows.ipv4BackRow.wideKeys == (Try.f16.params.toList ++ Rows.ipv4BackSpec.plain.varTypes Try.prog ++ Try.f16.resultTypes.toList).any (Try.prog.wideKeysFrom ·)) = true := by kernel_rfl
theorem c19 : Rows.ipv4BackSpec.vars.all (Try.prog.varReadable ·) = true := by kernel_rfl
theorem c20 : Try.f16.resultTypes.all (fun t => Try.prog.readableRec t && decide (t < Try.prog.types.size)) = true := by kernel_rfl
theorem c21 : (Rows.ipv4BackRow.ifacesOut == Try.f16.resultTypes.toList.any (Try.prog.ifacesRec ·)) = true := by kernel_rfl
theorem c22 : (Rows.ipv4BackRow.loopsOut == Try.f16.resultTypes.toList.any (Try.prog.loopsFrom ·)) = true := by kernel_rfl
theorem c24 : Rows.ipv4BackRow.shortTexts.isNone = true := by kernel_rfl
theorem c29 : (Rows.ipv4BackRow.kinds == (if Rows.ipv4BackRow.domain.isEmpty then [] else Try.f16.params.toList.map fun t => match Try.prog.underlying t with | some (.int k) => some k | _ => none)) = true := by kernel_rfl
theorem c30 : (Rows.ipv4BackRow.pinned == Rows.ipv4BackRow.pinnedBy) = true := by kernel_rfl
theorem c31 : (Rows.ipv4BackRow.veiled == (Try.f16.params.toList ++ Rows.ipv4BackSpec.plain.varTypes Try.prog ++ Try.f16.resultTypes.toList).any (Try.prog.veiledRec ·)) = true := by kernel_rfl
theorem c32 : Rows.ipv4BackRow.veiledFits Try.prog Try.f16.params.toList (Try.f16.params.toList ++ Rows.ipv4BackSpec.plain.varTypes Try.prog ++ Try.f16.resultTypes.toList) = true := by kernel_rfl
theorem c23 : (Rows.ipv4BackRow.plainKeys == Try.prog.plainKeys) = true := RowK.eq_of_true RowK.plain
theorem c27 : (Rows.ipv4BackRow.lifted == Try.prog.liftsFinal) = true := RowK.eq_of_false RowK.final
theorem c28 : (Try.prog.make == some Rows.ipv4BackRow.make) = true := by rw [RowK.make]; rfl
theorem closed : joinedFacts Try.prog 16 Try.f16 Rows.ipv4BackSpec Rows.ipv4BackRow = true := by
  unfold joinedFacts
  exact (RowK.both (RowK.both (RowK.both (RowK.both (RowK.both (RowK.both (RowK.both (RowK.both (RowK.both (RowK.both (RowK.both (RowK.both (RowK.both (RowK.both (RowK.both (RowK.both (RowK.both (RowK.both (RowK.both (RowK.both (RowK.both (RowK.both (RowK.both (RowK.both (RowK.both (RowK.both (RowK.both (RowK.both (RowK.both (RowK.both (RowK.both c1 RowK.laid) RowK.mapsR) c4) c5) c6) RowK.stops) c8) RowK.stopKnobs) c10) c11) c12) c13) c14) c15) c16) c17) c18) c19) c20) c21) c22) c23) c24) RowK.heard) RowK.enter) c27) c28) c29) c30) c31) c32)
theorem over : Rows.ipv4BackRow.holds Try.pinned (OpenSpec.ofChange Rows.ipv4BackSpec) :=
  OpenClaim.holds_of_wide 16 Try.f16 rfl rfl rfl rfl rfl rfl rfl ⟨rfl, rfl, rfl, rfl, rfl⟩ rfl rfl rfl rfl rfl named Try.func16 closed
    (of_decide_eq_true (by kernel_rfl)) (by unfold Func.isWrapper; first | (rw [if_pos (by decide +kernel)]; kernel_rfl) | (rw [if_neg (by decide +kernel)]; exact ⟨rfl, rfl⟩))
    (fun os started H enc _ => lifted os started H enc)
theorem proved : Rows.Ipv4BackSaid := over
#print axioms proved
end Go.Proofs.Ytcilcmbailoeaaa.ipv4Back
namespace Go.Proofs.Ytcilcmbailoeaaa
/-- The row, under a short name, for the claim. -/
theorem ipv4Back_holds : Rows.Ipv4BackSaid := ipv4Back.proved
end Go.Proofs.Ytcilcmbailoeaaa
