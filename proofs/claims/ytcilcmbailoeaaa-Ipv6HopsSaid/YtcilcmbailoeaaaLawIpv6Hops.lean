/- The law Ipv6Hops, told of the program: kept by what its contract says. Written by row.py, a program of this work. -/
import Derived.Test.YtcilcmbailoeaaaRowK
import Derived.Test.YtcilcmbailoeaaaSxOp
import Derived.Test.YtcilcmbailoeaaaSpL21p
import Derived.WalkKit
import Derived.ProofKit
import Derived.OpenShut
import Derived.ShutString
import Derived.ChangeOld
import Derived.Below
import Derived.SizedLaws
namespace Go.Proofs.Ytcilcmbailoeaaa.ipv6Hops
open Go.ChangeShapes Go.WideShapes Go.ChangeAt Go.RowKit
open Sx (RoOK wfT relV relVs)
set_option linter.unusedVariables false
set_option maxRecDepth 100000
theorem own : ownKnob Try.prog.godebug = none := RowK.own
theorem laidOut : laidOutB Try.prog = true := RowK.laid
theorem lifted (os : Os) (started : os.Started) (H : Type) (enc : TypeId × Value → H) :
    ReturnsInHanded {} Try.checked os 24 .any (Rows.ipv6HopsSpec.pre6 enc Try.prog Try.f24 Rows.ipv6HopsRow.domain false) (Rows.ipv6HopsSpec.post enc Try.prog Try.f24 false true false false) := by
  refine returnsInHanded_of_change_sized (C := Try.checked) own started (by kernel_rfl) Try.func24
    (ChangeSpec.witness6 (enc := enc) (C := Try.checked) false ⟨#[], #[.slice none 0 0], []⟩ 8 (by kernel_rfl) (by kernel_rfl) (by kernel_rfl) (by kernel_rfl)) ?_
  intro W base args ds gs before hval0 hW hcnd hsz0 _
  have hval : ∀ (j : Nat) t v, Try.f24.params[j]? = some t → args[j]? = some v → Value.okWide Try.prog W .any base t v := hval0
  have hW' := hW
  obtain ⟨p, q, hA0, hV, rfl, hfz, hnd⟩ := hW
  have hA : DataW.TrodAll enc Try.prog W 0 (fun _ => true) true Try.f24.params.toList args.toList ds p := hA0
  rw [Try.params24] at hA hval
  obtain ⟨v0, vs0, d0, ds0, p0, q0, hargs, rfl, rfl, h0, r0⟩ := trodAll_cons hA
  obtain ⟨rfl, rfl, rfl⟩ := trodAll_nil r0
  obtain rfl : args = #[v0] := by cases args; simp_all
  obtain ⟨rfl, rfl⟩ := trodVars_none hV
  have k0 := h0
  have lt0 : ∀ x ∈ p0, x.block < W.heap.size := by obtain ⟨m, hm⟩ := k0; exact DataW.trod_lt m _ _ _ hm
  obtain ⟨x0, w0, ro0⟩ := Sx.open_rowF (n := 9) (ks := [.i .u8]) Try.underlying22 (by kernel_rfl) (by kernel_rfl) (by decide) (hval 0 22 v0 rfl rfl) h0
  refine Calls.mono (Sx.Good.law Sp.g_hops6 (x0) (Sp.law_hops6 x0 w0) (vs := [(v0, Sx.Ob.row false [.i .u8] x0)]) (List.forall_mem_cons.2 ⟨ro0, fun q hq => by simp at hq⟩) rfl ⟨Sx.ro_arg ro0 rfl, trivial⟩ (fun oc hoc y _ => by cases List.mem_singleton.1 hoc; rfl)) fun e W' ⟨he, bel⟩ => ?_
  subst he
  exact ⟨_, rfl, _, _, _, [], _, [], hW', trodAll_mk1 (shut_bool Try.underlying4 _), (trodAll_cons_mk (Below.trod laidOut (by kernel_rfl) (of_decide_eq_true (by kernel_rfl)) k0 bel lt0) trodAll_mk0), rfl, bel.frame _, fun h => by cases h⟩
theorem named : Try.prog.funcNamed Rows.ipv6HopsRow.func = some 24 := by kernel_rfl
theorem c1 : Rows.ipv6HopsRow.wf (OpenSpec.ofChange Rows.ipv6HopsSpec) = true := by kernel_rfl
theorem c4 : Try.f24.params.all (Try.prog.readableRec ·) = true := by kernel_rfl
theorem c5 : namedTie Try.prog Rows.ipv6HopsRow.named Rows.ipv6HopsSpec.vars = true := by kernel_rfl
theorem c6 : (Rows.ipv6HopsRow.stops == []) = true := by kernel_rfl
theorem c8 : (Rows.ipv6HopsRow.knobs == []) = true := by kernel_rfl
theorem c10 : (Rows.ipv6HopsRow.inPlace == Try.prog.inPlace 24) = true := by kernel_rfl
theorem c11 : (Rows.ipv6HopsRow.unfollowed == Try.prog.unfollowed 24) = true := by kernel_rfl
theorem c12 : (Rows.ipv6HopsRow.recurses == Try.prog.recurses 24) = true := by kernel_rfl
theorem c13 : (Rows.ipv6HopsRow.named == Try.prog.varsNamed 24) = true := by kernel_rfl
theorem c14 : (Rows.ipv6HopsRow.maps == (Try.f24.params.toList ++ Rows.ipv6HopsSpec.plain.varTypes Try.prog).any (Try.prog.mapsRec ·)) = true := by kernel_rfl
theorem c15 : (Rows.ipv6HopsRow.ifaces == (Try.f24.params.toList ++ Rows.ipv6HopsSpec.plain.varTypes Try.prog).any (Try.prog.ifacesRec ·)) = true := by kernel_rfl
theorem c16 : (Rows.ipv6HopsRow.mapsOut == Try.prog.mapsAmong Try.f24.resultTypes.toList) = true := by kernel_rfl
theorem c17 : (Rows.ipv6HopsRow.loops == (Try.f24.params.toList ++ Rows.ipv6HopsSpec.plain.varTypes Try.prog).any (Try.prog.loopsFrom ·)) = true := by kernel_rfl
theorem c18 : (Rows.ipv6HopsRow.wideKeys == (Try.f24.params.toList ++ Rows.ipv6HopsSpec.plain.varTypes Try.prog ++ Try.f24.resultTypes.toList).any (Try.prog.wideKeysFrom ·)) = true := by kernel_rfl
theorem c19 : Rows.ipv6HopsSpec.vars.all (Try.prog.varReadable ·) = true := by kernel_rfl
theorem c20 : Try.f24.resultTypes.all (fun t => Try.prog.readableRec t && decide (t < Try.prog.types.size)) = true := by kernel_rfl
theorem c21 : (Rows.ipv6HopsRow.ifacesOut == Try.f24.resultTypes.toList.any (Try.prog.ifacesRec ·)) = true := by kernel_rfl
theorem c22 : (Rows.ipv6HopsRow.loopsOut == Try.f24.resultTypes.toList.any (Try.prog.loopsFrom ·)) = true := by kernel_rfl
theorem c24 : Rows.ipv6HopsRow.shortTexts.isNone = true := by kernel_rfl
theorem c29 : (Rows.ipv6HopsRow.kinds == (if Rows.ipv6HopsRow.domain.isEmpty then [] else Try.f24.params.toList.map fun t => match Try.prog.underlying t with | some (.int k) => some k | _ => none)) = true := by kernel_rfl
theorem c30 : (Rows.ipv6HopsRow.pinned == Rows.ipv6HopsRow.pinnedBy) = true := by kernel_rfl
theorem c31 : (Rows.ipv6HopsRow.veiled == (Try.f24.params.toList ++ Rows.ipv6HopsSpec.plain.varTypes Try.prog ++ Try.f24.resultTypes.toList).any (Try.prog.veiledRec ·)) = true := by kernel_rfl
theorem c32 : Rows.ipv6HopsRow.veiledFits Try.prog Try.f24.params.toList (Try.f24.params.toList ++ Rows.ipv6HopsSpec.plain.varTypes Try.prog ++ Try.f24.resultTypes.toList) = true := by kernel_rfl
theorem c23 : (Rows.ipv6HopsRow.plainKeys == Try.prog.plainKeys) = true := RowK.eq_of_true RowK.plain
theorem c27 : (Rows.ipv6HopsRow.lifted == Try.prog.liftsFinal) = true := RowK.eq_of_false RowK.final
theorem c28 : (Try.prog.make == some Rows.ipv6HopsRow.make) = true := by rw [RowK.make]; rfl
theorem closed : joinedFacts Try.prog 24 Try.f24 Rows.ipv6HopsSpec Rows.ipv6HopsRow = true := by
  unfold joinedFacts
  exact (RowK.both (RowK.both (RowK.both (RowK.both (RowK.both (RowK.both (RowK.both (RowK.both (RowK.both (RowK.both (RowK.both (RowK.both (RowK.both (RowK.both (RowK.both (RowK.both (RowK.both (RowK.both (RowK.both (RowK.both (RowK.both (RowK.both (RowK.both (RowK.both (RowK.both (RowK.both (RowK.both (RowK.both (RowK.both (RowK.both (RowK.both c1 RowK.laid) RowK.mapsR) c4) c5) c6) RowK.stops) c8) RowK.stopKnobs) c10) c11) c12) c13) c14) c15) c16) c17) c18) c19) c20) c21) c22) c23) c24) RowK.heard) RowK.enter) c27) c28) c29) c30) c31) c32)
theorem over : Rows.ipv6HopsRow.holds Try.pinned (OpenSpec.ofChange Rows.ipv6HopsSpec) :=
  OpenClaim.holds_of_wide 24 Try.f24 rfl rfl rfl rfl rfl rfl rfl ⟨rfl, rfl, rfl, rfl, rfl⟩ rfl rfl rfl rfl rfl named Try.func24 closed
    (of_decide_eq_true (by kernel_rfl)) (by unfold Func.isWrapper; first | (rw [if_pos (by decide +kernel)]; kernel_rfl) | (rw [if_neg (by decide +kernel)]; exact ⟨rfl, rfl⟩))
    (fun os started H enc _ => lifted os started H enc)
theorem proved : Rows.Ipv6HopsSaid := over
#print axioms proved
end Go.Proofs.Ytcilcmbailoeaaa.ipv6Hops
namespace Go.Proofs.Ytcilcmbailoeaaa
/-- The row, under a short name, for the claim. -/
theorem ipv6Hops_holds : Rows.Ipv6HopsSaid := ipv6Hops.proved
end Go.Proofs.Ytcilcmbailoeaaa
