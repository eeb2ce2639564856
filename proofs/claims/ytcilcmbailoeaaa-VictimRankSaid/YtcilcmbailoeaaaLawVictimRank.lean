/- The law VictimRank, told of the program: kept by what its contract says. Written by row.py, a program of this work. -/
import Derived.Test.YtcilcmbailoeaaaRowK
import Derived.Test.YtcilcmbailoeaaaSxOp
import Derived.Test.YtcilcmbailoeaaaSpL12p
import Derived.WalkKit
import Derived.ProofKit
import Derived.OpenShut
import Derived.ShutString
import Derived.ChangeOld
import Derived.Below
import Derived.SizedLaws
namespace Go.Proofs.Ytcilcmbailoeaaa.victimRank
open Go.ChangeShapes Go.WideShapes Go.ChangeAt Go.RowKit
open Sx (RoOK wfT relV relVs)
set_option linter.unusedVariables false
set_option maxRecDepth 100000
theorem own : ownKnob Try.prog.godebug = none := RowK.own
theorem laidOut : laidOutB Try.prog = true := RowK.laid
theorem lifted (os : Os) (started : os.Started) (H : Type) (enc : TypeId × Value → H) :
    ReturnsInHanded {} Try.checked os 29 .any (Rows.victimRankSpec.pre6 enc Try.prog Try.f29 Rows.victimRankRow.domain false) (Rows.victimRankSpec.post enc Try.prog Try.f29 false true false false) := by
  refine returnsInHanded_of_change_sized (C := Try.checked) own started (by kernel_rfl) Try.func29
    (ChangeSpec.witness6 (enc := enc) (C := Try.checked) false ⟨#[], #[.int .i64 0, .slice none 0 0], []⟩ 8 (by kernel_rfl) (by kernel_rfl) (by kernel_rfl) (by kernel_rfl)) ?_
  intro W base args ds gs before hval0 hW hcnd hsz0 _
  have hval : ∀ (j : Nat) t v, Try.f29.params[j]? = some t → args[j]? = some v → Value.okWide Try.prog W .any base t v := hval0
  have hW' := hW
  obtain ⟨p, q, hA0, hV, rfl, hfz, hnd⟩ := hW
  have hA : DataW.TrodAll enc Try.prog W 0 (fun _ => true) true Try.f29.params.toList args.toList ds p := hA0
  rw [Try.params29] at hA hval
  obtain ⟨v0, vs0, d0, ds0, p0, q0, hargs, rfl, rfl, h0, r0⟩ := trodAll_cons hA
  obtain ⟨v1, vs1, d1, ds1, p1, q1, rfl, rfl, rfl, h1, r1⟩ := trodAll_cons r0
  obtain ⟨rfl, rfl, rfl⟩ := trodAll_nil r1
  obtain rfl : args = #[v0, v1] := by cases args; simp_all
  obtain ⟨rfl, rfl⟩ := trodVars_none hV
  have k0 := h0
  have lt0 : ∀ x ∈ p0, x.block < W.heap.size := by obtain ⟨m, hm⟩ := k0; exact DataW.trod_lt m _ _ _ hm
  obtain ⟨x0, rfl, _, _, u0⟩ := open_int Try.underlying3 (hval 0 3 v0 rfl rfl) h0
  have w0 := Sx.wf_int u0
  have k1 := h1
  have lt1 : ∀ x ∈ p1, x.block < W.heap.size := by obtain ⟨m, hm⟩ := k1; exact DataW.trod_lt m _ _ _ hm
  obtain ⟨x1, w1, ro1⟩ := Sx.open_rowF (n := 9) (ks := [.i .i64, .i .i64]) Try.underlying112 (by kernel_rfl) (by kernel_rfl) (by decide) (hval 1 112 v1 rfl rfl) h1
  refine Calls.mono (Sx.Good.law Sp.good_vicrank (x0, x1) (Sp.law_two x0 x1 w0 w1) (vs := [(v1, Sx.Ob.row false [.i .i64, .i .i64] x1)]) (List.forall_mem_cons.2 ⟨ro1, fun q hq => by simp at hq⟩) rfl ⟨⟨w0, rfl⟩, Sx.ro_arg ro1 rfl, trivial⟩ (fun oc hoc y _ => by cases List.mem_singleton.1 hoc; rfl)) fun e W' ⟨he, bel⟩ => ?_
  subst he
  exact ⟨_, rfl, _, _, _, [], _, [], hW', trodAll_mk1 (shut_bool Try.underlying4 _), (trodAll_cons_mk (Below.trod laidOut (by kernel_rfl) (of_decide_eq_true (by kernel_rfl)) k0 bel lt0) (trodAll_cons_mk (Below.trod laidOut (by kernel_rfl) (of_decide_eq_true (by kernel_rfl)) k1 bel lt1) trodAll_mk0)), rfl, bel.frame _, fun h => by cases h⟩
theorem named : Try.prog.funcNamed Rows.victimRankRow.func = some 29 := by kernel_rfl
theorem c1 : Rows.victimRankRow.wf (OpenSpec.ofChange Rows.victimRankSpec) = true := by kernel_rfl
theorem c4 : Try.f29.params.all (Try.prog.readableRec ·) = true := by kernel_rfl
theorem c5 : namedTie Try.prog Rows.victimRankRow.named Rows.victimRankSpec.vars = true := by kernel_rfl
theorem c6 : (Rows.victimRankRow.stops == []) = true := by kernel_rfl
theorem c8 : (Rows.victimRankRow.knobs == []) = true := by kernel_rfl
theorem c10 : (Rows.victimRankRow.inPlace == Try.prog.inPlace 29) = true := by kernel_rfl
theorem c11 : (Rows.victimRankRow.unfollowed == Try.prog.unfollowed 29) = true := by kernel_rfl
theorem c12 : (Rows.victimRankRow.recurses == Try.prog.recurses 29) = true := by kernel_rfl
theorem c13 : (Rows.victimRankRow.named == Try.prog.varsNamed 29) = true := by kernel_rfl
theorem c14 : (Rows.victimRankRow.maps == (Try.f29.params.toList ++ Rows.victimRankSpec.plain.varTypes Try.prog).any (Try.prog.mapsRec ·)) = true := by kernel_rfl
theorem c15 : (Rows.victimRankRow.ifaces == (Try.f29.params.toList ++ Rows.victimRankSpec.plain.varTypes Try.prog).any (Try.prog.ifacesRec ·)) = true := by kernel_rfl
theorem c16 : (Rows.victimRankRow.mapsOut == Try.prog.mapsAmong Try.f29.resultTypes.toList) = true := by kernel_rfl
theorem c17 : (Rows.victimRankRow.loops == (Try.f29.params.toList ++ Rows.victimRankSpec.plain.varTypes Try.prog).any (Try.prog.loopsFrom ·)) = true := by kernel_rfl
theorem c18 : (Rows.victimRankRow.wideKeys == (Try.f29.params.toList ++ Rows.victimRankSpec.plain.varTypes Try.prog ++ Try.f29.resultTypes.toList).any (Try.prog.wideKeysFrom ·)) = true := by kernel_rfl
theorem c19 : Rows.victimRankSpec.vars.all (Try.prog.varReadable ·) = true := by kernel_rfl
theorem c20 : Try.f29.resultTypes.all (fun t => Try.prog.readableRec t && decide (t < Try.prog.types.size)) = true := by kernel_rfl
theorem c21 : (Rows.victimRankRow.ifacesOut == Try.f29.resultTypes.toList.any (Try.prog.ifacesRec ·)) = true := by kernel_rfl
theorem c22 : (Rows.victimRankRow.loopsOut == Try.f29.resultTypes.toList.any (Try.prog.loopsFrom ·)) = true := by kernel_rfl
theorem c24 : Rows.victimRankRow.shortTexts.isNone = true := by kernel_rfl
theorem c29 : (Rows.victimRankRow.kinds == (if Rows.victimRankRow.domain.isEmpty then [] else Try.f29.params.toList.map fun t => match Try.prog.underlying t with | some (.int k) => some k | _ => none)) = true := by kernel_rfl
theorem c30 : (Rows.victimRankRow.pinned == Rows.victimRankRow.pinnedBy) = true := by kernel_rfl
theorem c31 : (Rows.victimRankRow.veiled == (Try.f29.params.toList ++ Rows.victimRankSpec.plain.varTypes Try.prog ++ Try.f29.resultTypes.toList).any (Try.prog.veiledRec ·)) = true := by kernel_rfl
theorem c32 : Rows.victimRankRow.veiledFits Try.prog Try.f29.params.toList (Try.f29.params.toList ++ Rows.victimRankSpec.plain.varTypes Try.prog ++ Try.f29.resultTypes.toList) = true := by kernel_rfl
theorem c23 : (Rows.victimRankRow.plainKeys == Try.prog.plainKeys) = true := RowK.eq_of_true RowK.plain
theorem c27 : (Rows.victimRankRow.lifted == Try.prog.liftsFinal) = true := RowK.eq_of_false RowK.final
theorem c28 : (Try.prog.make == some Rows.victimRankRow.make) = true := by rw [RowK.make]; rfl
theorem closed : joinedFacts Try.prog 29 Try.f29 Rows.victimRankSpec Rows.victimRankRow = true := by
  unfold joinedFacts
  exact (RowK.both (RowK.both (RowK.both (RowK.both (RowK.both (RowK.both (RowK.both (RowK.both (RowK.both (RowK.both (RowK.both (RowK.both (RowK.both (RowK.both (RowK.both (RowK.both (RowK.both (RowK.both (RowK.both (RowK.both (RowK.both (RowK.both (RowK.both (RowK.both (RowK.both (RowK.both (RowK.both (RowK.both (RowK.both (RowK.both (RowK.both c1 RowK.laid) RowK.mapsR) c4) c5) c6) RowK.stops) c8) RowK.stopKnobs) c10) c11) c12) c13) c14) c15) c16) c17) c18) c19) c20) c21) c22) c23) c24) RowK.heard) RowK.enter) c27) c28) c29) c30) c31) c32)
theorem over : Rows.victimRankRow.holds Try.pinned (OpenSpec.ofChange Rows.victimRankSpec) :=
  OpenClaim.holds_of_wide 29 Try.f29 rfl rfl rfl rfl rfl rfl rfl ⟨rfl, rfl, rfl, rfl, rfl⟩ rfl rfl rfl rfl rfl named Try.func29 closed
    (of_decide_eq_true (by kernel_rfl)) (by unfold Func.isWrapper; first | (rw [if_pos (by decide +kernel)]; kernel_rfl) | (rw [if_neg (by decide +kernel)]; exact ⟨rfl, rfl⟩))
    (fun os started H enc _ => lifted os started H enc)
theorem proved : Rows.VictimRankSaid := over
#print axioms proved
end Go.Proofs.Ytcilcmbailoeaaa.victimRank
namespace Go.Proofs.Ytcilcmbailoeaaa
/-- The row, under a short name, for the claim. -/
theorem victimRank_holds : Rows.VictimRankSaid := victimRank.proved
end Go.Proofs.Ytcilcmbailoeaaa
