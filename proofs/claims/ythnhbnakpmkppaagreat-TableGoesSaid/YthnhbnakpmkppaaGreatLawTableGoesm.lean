import Derived.WalkKit
import Derived.ProofKit
import Derived.OpenShut
import Derived.ShutString
import Derived.ChangeOld
import Derived.Below
import Derived.SizedLaws
import Derived.Test.YthnhbnakpmkppaaGreatMgTableGoes5
import Derived.Test.YthnhbnakpmkppaaGreatMgTableGoes26
import Derived.Test.YthnhbnakpmkppaaGreatMgTableGoes27
section
namespace Go.Proofs.YthnhbnakpmkppaaGreat.tableGoes
open Go.ChangeShapes Go.WideShapes Go.ChangeAt Go.RowKit
open Sx (RoOK wfT relV relVs)
set_option linter.unusedVariables false
set_option maxRecDepth 100000
theorem own : ownKnob Tryz.prog.godebug = none := RowK.own
theorem laidOut : laidOutB Tryz.prog = true := RowK.laid
theorem lifted (os : Os) (started : os.Started) (H : Type) (enc : TypeId × Value → H) :
    ReturnsInHanded {} Tryz.checked os 5 .any (Rows.tableGoesSpec.pre6 enc Tryz.prog Tryz.f5 Rows.tableGoesRow.domain false) (Rows.tableGoesSpec.post enc Tryz.prog Tryz.f5 false true false false) := by
  refine returnsInHanded_of_change_sized (C := Tryz.checked) own started (by kernel_rfl) Tryz.func5
    (ChangeSpec.witness6 (enc := enc) (C := Tryz.checked) false ⟨#[], #[.int .i64 0, .int .i64 0, .slice none 0 0], []⟩ 8 (by kernel_rfl) (by kernel_rfl) (by kernel_rfl) (by kernel_rfl)) ?_
  intro W base args ds gs before hval0 hW hcnd hsz0 _
  have hval : ∀ (j : Nat) t v, Tryz.f5.params[j]? = some t → args[j]? = some v → Value.okWide Tryz.prog W .any base t v := hval0
  have hW' := hW
  obtain ⟨p, q, hA0, hV, rfl, hfz, hnd⟩ := hW
  have hA : DataW.TrodAll enc Tryz.prog W 0 (fun _ => true) true Tryz.f5.params.toList args.toList ds p := hA0
  rw [Tryz.params5] at hA hval
  obtain ⟨v0, vs0, d0, ds0, p0, q0, hargs, rfl, rfl, h0, r0⟩ := trodAll_cons hA
  obtain ⟨v1, vs1, d1, ds1, p1, q1, rfl, rfl, rfl, h1, r1⟩ := trodAll_cons r0
  obtain ⟨v2, vs2, d2, ds2, p2, q2, rfl, rfl, rfl, h2, r2⟩ := trodAll_cons r1
  obtain ⟨rfl, rfl, rfl⟩ := trodAll_nil r2
  obtain rfl : args = #[v0, v1, v2] := by cases args; simp_all
  obtain ⟨rfl, rfl⟩ := trodVars_none hV
  have k0 := h0
  have lt0 : ∀ x ∈ p0, x.block < W.heap.size := by obtain ⟨m, hm⟩ := k0; exact DataW.trod_lt m _ _ _ hm
  obtain ⟨x0, rfl, _, _, u0⟩ := open_int Tryz.underlying3 (hval 0 3 v0 rfl rfl) h0
  have w0 := Sx.wf_int u0
  have k1 := h1
  have lt1 : ∀ x ∈ p1, x.block < W.heap.size := by obtain ⟨m, hm⟩ := k1; exact DataW.trod_lt m _ _ _ hm
  obtain ⟨x1, rfl, _, _, u1⟩ := open_int Tryz.underlying3 (hval 1 3 v1 rfl rfl) h1
  have w1 := Sx.wf_int u1
  have k2 := h2
  have lt2 : ∀ x ∈ p2, x.block < W.heap.size := by obtain ⟨m, hm⟩ := k2; exact DataW.trod_lt m _ _ _ hm
  obtain ⟨x2, w2, ro2⟩ := Sx.open_rowF (n := 9) (ks := [.i .i64, .i .u64, .i .u64, .b, .i .i64, .i .i64]) Tryz.underlying22 (by kernel_rfl) (by kernel_rfl) (by decide) (hval 2 22 v2 rfl rfl) h2
  refine Calls.mono (Sx.Good.law Sp.g_goes13 (x0, x1, x2) (Sp.law_goes13 x0 x1 x2 w0 w1 w2) (vs := [(v2, Sx.Ob.row false [.i .i64, .i .u64, .i .u64, .b, .i .i64, .i .i64] x2)]) (List.forall_mem_cons.2 ⟨ro2, fun q hq => by simp at hq⟩) rfl ⟨⟨w0, rfl⟩, ⟨w1, rfl⟩, Sx.ro_arg ro2 rfl, trivial⟩ (fun oc hoc y _ => by cases List.mem_singleton.1 hoc; rfl)) fun e W' ⟨he, bel⟩ => ?_
  subst he
  exact ⟨_, rfl, _, _, _, [], _, [], hW', trodAll_mk1 (shut_bool Tryz.underlying4 _), (trodAll_cons_mk (Below.trod laidOut (by kernel_rfl) (of_decide_eq_true (by kernel_rfl)) k0 bel lt0) (trodAll_cons_mk (Below.trod laidOut (by kernel_rfl) (of_decide_eq_true (by kernel_rfl)) k1 bel lt1) (trodAll_cons_mk (Below.trod laidOut (by kernel_rfl) (of_decide_eq_true (by kernel_rfl)) k2 bel lt2) trodAll_mk0))), rfl, bel.frame _, fun h => by cases h⟩
theorem named : Tryz.prog.funcNamed Rows.tableGoesRow.func = some 5 := by kernel_rfl
theorem c1 : Rows.tableGoesRow.wf (OpenSpec.ofChange Rows.tableGoesSpec) = true := by kernel_rfl
theorem c4 : Tryz.f5.params.all (Tryz.prog.readableRec ·) = true := by kernel_rfl
theorem c5 : namedTie Tryz.prog Rows.tableGoesRow.named Rows.tableGoesSpec.vars = true := by kernel_rfl
theorem c6 : (Rows.tableGoesRow.stops == []) = true := by kernel_rfl
theorem c8 : (Rows.tableGoesRow.knobs == []) = true := by kernel_rfl
theorem c10 : (Rows.tableGoesRow.inPlace == Tryz.prog.inPlace 5) = true := by kernel_rfl
theorem c11 : (Rows.tableGoesRow.unfollowed == Tryz.prog.unfollowed 5) = true := by kernel_rfl
theorem c12 : (Rows.tableGoesRow.recurses == Tryz.prog.recurses 5) = true := by kernel_rfl
theorem c13 : (Rows.tableGoesRow.named == Tryz.prog.varsNamed 5) = true := by kernel_rfl
theorem c14 : (Rows.tableGoesRow.maps == (Tryz.f5.params.toList ++ Rows.tableGoesSpec.plain.varTypes Tryz.prog).any (Tryz.prog.mapsRec ·)) = true := by kernel_rfl
theorem c15 : (Rows.tableGoesRow.ifaces == (Tryz.f5.params.toList ++ Rows.tableGoesSpec.plain.varTypes Tryz.prog).any (Tryz.prog.ifacesRec ·)) = true := by kernel_rfl
theorem c16 : (Rows.tableGoesRow.mapsOut == Tryz.prog.mapsAmong Tryz.f5.resultTypes.toList) = true := by kernel_rfl
theorem c17 : (Rows.tableGoesRow.loops == (Tryz.f5.params.toList ++ Rows.tableGoesSpec.plain.varTypes Tryz.prog).any (Tryz.prog.loopsFrom ·)) = true := by kernel_rfl
theorem c18 : (Rows.tableGoesRow.wideKeys == (Tryz.f5.params.toList ++ Rows.tableGoesSpec.plain.varTypes Tryz.prog ++ Tryz.f5.resultTypes.toList).any (Tryz.prog.wideKeysFrom ·)) = true := by kernel_rfl
theorem c19 : Rows.tableGoesSpec.vars.all (Tryz.prog.varReadable ·) = true := by kernel_rfl
theorem c20 : Tryz.f5.resultTypes.all (fun t => Tryz.prog.readableRec t && decide (t < Tryz.prog.types.size)) = true := by kernel_rfl
theorem c21 : (Rows.tableGoesRow.ifacesOut == Tryz.f5.resultTypes.toList.any (Tryz.prog.ifacesRec ·)) = true := by kernel_rfl
theorem c22 : (Rows.tableGoesRow.loopsOut == Tryz.f5.resultTypes.toList.any (Tryz.prog.loopsFrom ·)) = true := by kernel_rfl
theorem c24 : Rows.tableGoesRow.shortTexts.isNone = true := by kernel_rfl
theorem c29 : (Rows.tableGoesRow.kinds == (if Rows.tableGoesRow.domain.isEmpty then [] else Tryz.f5.params.toList.map fun t => match Tryz.prog.underlying t with | some (.int k) => some k | _ => none)) = true := by kernel_rfl
theorem c30 : (Rows.tableGoesRow.pinned == Rows.tableGoesRow.pinnedBy) = true := by kernel_rfl
theorem c31 : (Rows.tableGoesRow.veiled == (Tryz.f5.params.toList ++ Rows.tableGoesSpec.plain.varTypes Tryz.prog ++ Tryz.f5.resultTypes.toList).any (Tryz.prog.veiledRec ·)) = true := by kernel_rfl
theorem c32 : Rows.tableGoesRow.veiledFits Tryz.prog Tryz.f5.params.toList (Tryz.f5.params.toList ++ Rows.tableGoesSpec.plain.varTypes Tryz.prog ++ Tryz.f5.resultTypes.toList) = true := by kernel_rfl
theorem c23 : (Rows.tableGoesRow.plainKeys == Tryz.prog.plainKeys) = true := RowK.eq_of_true RowK.plain
theorem c27 : (Rows.tableGoesRow.lifted == Tryz.prog.liftsFinal) = true := RowK.eq_of_false RowK.final
theorem c28 : (Tryz.prog.make == some Rows.tableGoesRow.make) = true := by rw [RowK.make]; rfl
theorem closed : joinedFacts Tryz.prog 5 Tryz.f5 Rows.tableGoesSpec Rows.tableGoesRow = true := by
  unfold joinedFacts
  exact (RowK.both (RowK.both (RowK.both (RowK.both (RowK.both (RowK.both (RowK.both (RowK.both (RowK.both (RowK.both (RowK.both (RowK.both (RowK.both (RowK.both (RowK.both (RowK.both (RowK.both (RowK.both (RowK.both (RowK.both (RowK.both (RowK.both (RowK.both (RowK.both (RowK.both (RowK.both (RowK.both (RowK.both (RowK.both (RowK.both (RowK.both c1 RowK.laid) RowK.mapsR) c4) c5) c6) RowK.stops) c8) RowK.stopKnobs) c10) c11) c12) c13) c14) c15) c16) c17) c18) c19) c20) c21) c22) c23) c24) RowK.heard) RowK.enter) c27) c28) c29) c30) c31) c32)
theorem over : Rows.tableGoesRow.holds Tryz.pinned (OpenSpec.ofChange Rows.tableGoesSpec) :=
  OpenClaim.holds_of_wide 5 Tryz.f5 rfl rfl rfl rfl rfl rfl rfl ⟨rfl, rfl, rfl, rfl, rfl⟩ rfl rfl rfl rfl rfl named Tryz.func5 closed
    (of_decide_eq_true (by kernel_rfl)) (by unfold Func.isWrapper; first | (rw [if_pos (by decide +kernel)]; kernel_rfl) | (rw [if_neg (by decide +kernel)]; exact ⟨rfl, rfl⟩))
    (fun os started H enc _ => lifted os started H enc)
theorem proved : Rows.TableGoesSaid := over
#print axioms proved
end Go.Proofs.YthnhbnakpmkppaaGreat.tableGoes
namespace Go.Proofs.YthnhbnakpmkppaaGreat
theorem tableGoes_holds : Rows.TableGoesSaid := tableGoes.proved
end Go.Proofs.YthnhbnakpmkppaaGreat
end
