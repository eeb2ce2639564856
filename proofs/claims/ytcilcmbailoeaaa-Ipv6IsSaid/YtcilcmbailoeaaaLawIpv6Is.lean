/- The law Ipv6Is, told of the program: kept by what its contract says. Written by row.py, a program of this work. -/
import Derived.Test.YtcilcmbailoeaaaRowK
import Derived.Test.YtcilcmbailoeaaaSxOp
import Derived.Test.YtcilcmbailoeaaaSpL21rp
import Derived.WalkKit
import Derived.ProofKit
import Derived.OpenShut
import Derived.ShutString
import Derived.ChangeOld
import Derived.Below
import Derived.SizedLaws
namespace Go.Proofs.Ytcilcmbailoeaaa.ipv6Is
open Go.ChangeShapes Go.WideShapes Go.ChangeAt Go.RowKit
open Sx (RoOK wfT relV relVs)
set_option linter.unusedVariables false
set_option maxRecDepth 100000
theorem own : ownKnob Try.prog.godebug = none := RowK.own
theorem laidOut : laidOutB Try.prog = true := RowK.laid
theorem lifted (os : Os) (started : os.Started) (H : Type) (enc : TypeId × Value → H) :
    ReturnsInHanded {} Try.checked os 22 .any (Rows.ipv6IsSpec.pre6 enc Try.prog Try.f22 Rows.ipv6IsRow.domain false) (Rows.ipv6IsSpec.post enc Try.prog Try.f22 false true false false) := by
  refine returnsInHanded_of_change_sized (C := Try.checked) own started (by kernel_rfl) Try.func22
    (ChangeSpec.witness6 (enc := enc) (C := Try.checked) false ⟨#[], #[.slice none 0 0, .agg #[.int .i64 0, .int .i64 0, .int .i64 0, .int .i64 0, .int .i64 0, .int .u64 0, .int .u64 0, .bool false, .int .u64 0, .int .u64 0, .bool false], .slice none 0 0], []⟩ 8 (by kernel_rfl) (by kernel_rfl) (by kernel_rfl) (by kernel_rfl)) ?_
  intro W base args ds gs before hval0 hW hcnd hsz0 _
  have hval : ∀ (j : Nat) t v, Try.f22.params[j]? = some t → args[j]? = some v → Value.okWide Try.prog W .any base t v := hval0
  have hW' := hW
  obtain ⟨p, q, hA0, hV, rfl, hfz, hnd⟩ := hW
  have hA : DataW.TrodAll enc Try.prog W 0 (fun _ => true) true Try.f22.params.toList args.toList ds p := hA0
  rw [Try.params22] at hA hval
  obtain ⟨v0, vs0, d0, ds0, p0, q0, hargs, rfl, rfl, h0, r0⟩ := trodAll_cons hA
  obtain ⟨v1, vs1, d1, ds1, p1, q1, rfl, rfl, rfl, h1, r1⟩ := trodAll_cons r0
  obtain ⟨v2, vs2, d2, ds2, p2, q2, rfl, rfl, rfl, h2, r2⟩ := trodAll_cons r1
  obtain ⟨rfl, rfl, rfl⟩ := trodAll_nil r2
  obtain rfl : args = #[v0, v1, v2] := by cases args; simp_all
  obtain ⟨rfl, rfl⟩ := trodVars_none hV
  have k0 := h0
  have lt0 : ∀ x ∈ p0, x.block < W.heap.size := by obtain ⟨m, hm⟩ := k0; exact DataW.trod_lt m _ _ _ hm
  obtain ⟨x0, w0, ro0⟩ := Sx.open_rowF (n := 9) (ks := [.i .u8]) Try.underlying22 (by kernel_rfl) (by kernel_rfl) (by decide) (hval 0 22 v0 rfl rfl) h0
  have k1 := h1
  have lt1 : ∀ x ∈ p1, x.block < W.heap.size := by obtain ⟨m, hm⟩ := k1; exact DataW.trod_lt m _ _ _ hm
  obtain ⟨x1, rfl, w1⟩ := Sx.open_agg (n := 9) (ks := [.i .i64, .i .i64, .i .i64, .i .i64, .i .i64, .i .u64, .i .u64, .b, .i .u64, .i .u64, .b]) Try.underlying98 (by kernel_rfl) (hval 1 98 v1 rfl rfl) h1
  have k2 := h2
  have lt2 : ∀ x ∈ p2, x.block < W.heap.size := by obtain ⟨m, hm⟩ := k2; exact DataW.trod_lt m _ _ _ hm
  obtain ⟨x2, w2, ro2⟩ := Sx.open_rowF (n := 9) (ks := [.i .u8]) Try.underlying22 (by kernel_rfl) (by kernel_rfl) (by decide) (hval 2 22 v2 rfl rfl) h2
  refine Calls.mono (Sx.Good.law Sp.g_is6 (x0, x1, x2) (Sp.law_is6 x0 x1 x2 w0 w1 w2) (vs := [(v0, Sx.Ob.row false [.i .u8] x0), (v2, Sx.Ob.row false [.i .u8] x2)]) (List.forall_mem_cons.2 ⟨ro0, List.forall_mem_cons.2 ⟨ro2, fun q hq => by simp at hq⟩⟩) rfl ⟨Sx.ro_arg ro0 rfl, Sx.rel_agg w1, Sx.ro_arg ro2 rfl, trivial⟩ (fun oc hoc y _ => by cases List.mem_singleton.1 hoc; rfl)) fun e W' ⟨he, bel⟩ => ?_
  subst he
  exact ⟨_, rfl, _, _, _, [], _, [], hW', trodAll_mk1 (shut_bool Try.underlying4 _), (trodAll_cons_mk (Below.trod laidOut (by kernel_rfl) (of_decide_eq_true (by kernel_rfl)) k0 bel lt0) (trodAll_cons_mk (Below.trod laidOut (by kernel_rfl) (of_decide_eq_true (by kernel_rfl)) k1 bel lt1) (trodAll_cons_mk (Below.trod laidOut (by kernel_rfl) (of_decide_eq_true (by kernel_rfl)) k2 bel lt2) trodAll_mk0))), rfl, bel.frame _, fun h => by cases h⟩
theorem named : Try.prog.funcNamed Rows.ipv6IsRow.func = some 22 := by kernel_rfl
theorem c1 : Rows.ipv6IsRow.wf (OpenSpec.ofChange Rows.ipv6IsSpec) = true := by kernel_rfl
theorem c4 : Try.f22.params.all (Try.prog.readableRec ·) = true := by kernel_rfl
theorem c5 : namedTie Try.prog Rows.ipv6IsRow.named Rows.ipv6IsSpec.vars = true := by kernel_rfl
theorem c6 : (Rows.ipv6IsRow.stops == []) = true := by kernel_rfl
theorem c8 : (Rows.ipv6IsRow.knobs == []) = true := by kernel_rfl
theorem c10 : (Rows.ipv6IsRow.inPlace == Try.prog.inPlace 22) = true := by kernel_rfl
theorem c11 : (Rows.ipv6IsRow.unfollowed == Try.prog.unfollowed 22) = true := by kernel_rfl
theorem c12 : (Rows.ipv6IsRow.recurses == Try.prog.recurses 22) = true := by kernel_rfl
theorem c13 : (Rows.ipv6IsRow.named == Try.prog.varsNamed 22) = true := by kernel_rfl
theorem c14 : (Rows.ipv6IsRow.maps == (Try.f22.params.toList ++ Rows.ipv6IsSpec.plain.varTypes Try.prog).any (Try.prog.mapsRec ·)) = true := by kernel_rfl
theorem c15 : (Rows.ipv6IsRow.ifaces == (Try.f22.params.toList ++ Rows.ipv6IsSpec.plain.varTypes Try.prog).any (Try.prog.ifacesRec ·)) = true := by kernel_rfl
theorem c16 : (Rows.ipv6IsRow.mapsOut == Try.prog.mapsAmong Try.f22.resultTypes.toList) = true := by kernel_rfl
theorem c17 : (Rows.ipv6IsRow.loops == (Try.f22.params.toList ++ Rows.ipv6IsSpec.plain.varTypes Try.prog).any (Try.prog.loopsFrom ·)) = true := by kernel_rfl
theorem c18 : (Rows.ipv6IsRow.wideKeys == (Try.f22.params.toList ++ Rows.ipv6IsSpec.plain.varTypes Try.prog ++ Try.f22.resultTypes.toList).any (Try.prog.wideKeysFrom ·)) = true := by kernel_rfl
theorem c19 : Rows.ipv6IsSpec.vars.all (Try.prog.varReadable ·) = true := by kernel_rfl
theorem c20 : Try.f22.resultTypes.all (fun t => Try.prog.readableRec t && decide (t < Try.prog.types.size)) = true := by kernel_rfl
theorem c21 : (Rows.ipv6IsRow.ifacesOut == Try.f22.resultTypes.toList.any (Try.prog.ifacesRec ·)) = true := by kernel_rfl
theorem c22 : (Rows.ipv6IsRow.loopsOut == Try.f22.resultTypes.toList.any (Try.prog.loopsFrom ·)) = true := by kernel_rfl
theorem c24 : Rows.ipv6IsRow.shortTexts.isNone = true := by kernel_rfl
theorem c29 : (Rows.ipv6IsRow.kinds == (if Rows.ipv6IsRow.domain.isEmpty then [] else Try.f22.params.toList.map fun t => match Try.prog.underlying t with | some (.int k) => some k | _ => none)) = true := by kernel_rfl
theorem c30 : (Rows.ipv6IsRow.pinned == Rows.ipv6IsRow.pinnedBy) = true := by kernel_rfl
theorem c31 : (Rows.ipv6IsRow.veiled == (Try.f22.params.toList ++ Rows.ipv6IsSpec.plain.varTypes Try.prog ++ Try.f22.resultTypes.toList).any (Try.prog.veiledRec ·)) = true := by kernel_rfl
theorem c32 : Rows.ipv6IsRow.veiledFits Try.prog Try.f22.params.toList (Try.f22.params.toList ++ Rows.ipv6IsSpec.plain.varTypes Try.prog ++ Try.f22.resultTypes.toList) = true := by kernel_rfl
theorem c23 : (Rows.ipv6IsRow.plainKeys == Try.prog.plainKeys) = true := RowK.eq_of_true RowK.plain
theorem c27 : (Rows.ipv6IsRow.lifted == Try.prog.liftsFinal) = true := RowK.eq_of_false RowK.final
theorem c28 : (Try.prog.make == some Rows.ipv6IsRow.make) = true := by rw [RowK.make]; rfl
theorem closed : joinedFacts Try.prog 22 Try.f22 Rows.ipv6IsSpec Rows.ipv6IsRow = true := by
  unfold joinedFacts
  exact (RowK.both (RowK.both (RowK.both (RowK.both (RowK.both (RowK.both (RowK.both (RowK.both (RowK.both (RowK.both (RowK.both (RowK.both (RowK.both (RowK.both (RowK.both (RowK.both (RowK.both (RowK.both (RowK.both (RowK.both (RowK.both (RowK.both (RowK.both (RowK.both (RowK.both (RowK.both (RowK.both (RowK.both (RowK.both (RowK.both (RowK.both c1 RowK.laid) RowK.mapsR) c4) c5) c6) RowK.stops) c8) RowK.stopKnobs) c10) c11) c12) c13) c14) c15) c16) c17) c18) c19) c20) c21) c22) c23) c24) RowK.heard) RowK.enter) c27) c28) c29) c30) c31) c32)
theorem over : Rows.ipv6IsRow.holds Try.pinned (OpenSpec.ofChange Rows.ipv6IsSpec) :=
  OpenClaim.holds_of_wide 22 Try.f22 rfl rfl rfl rfl rfl rfl rfl ⟨rfl, rfl, rfl, rfl, rfl⟩ rfl rfl rfl rfl rfl named Try.func22 closed
    (of_decide_eq_true (by kernel_rfl)) (by unfold Func.isWrapper; first | (rw [if_pos (by decide +kernel)]; kernel_rfl) | (rw [if_neg (by decide +kernel)]; exact ⟨rfl, rfl⟩))
    (fun os started H enc _ => lifted os started H enc)
theorem proved : Rows.Ipv6IsSaid := over
#print axioms proved
end Go.Proofs.Ytcilcmbailoeaaa.ipv6Is
namespace Go.Proofs.Ytcilcmbailoeaaa
/-- The row, under a short name, for the claim. -/
theorem ipv6Is_holds : Rows.Ipv6IsSaid := ipv6Is.proved
end Go.Proofs.Ytcilcmbailoeaaa
