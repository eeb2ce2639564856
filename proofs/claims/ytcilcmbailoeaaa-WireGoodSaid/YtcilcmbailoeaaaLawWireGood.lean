-- Written by kprint.py, a program of this session, over the kit's print.py; functions marked HAND are our own texts.
import Derived.Test.YtcilcmbailoeaaaRowK
import Derived.Test.YtcilcmbailoeaaaKWx8
import Derived.Test.YtcilcmbailoeaaaPureWireGood
import Derived.WalkKit
import Derived.ProofKit
import Derived.OpenShut
import Derived.ShutString
import Derived.ChangeOld
import Derived.Below
import Derived.SizedLaws
import Derived.Test.YtcilcmbailoeaaaWSized
namespace Go.Proofs.Ytcilcmbailoeaaa.wireGood
open Go.ChangeShapes Go.WideShapes Go.ChangeAt Go.RowKit
open Go.ChangeMaps (open_string shut_string)
set_option linter.unusedVariables false
theorem own : ownKnob Try.prog.godebug = none := RowK.own
theorem laidOut : laidOutB Try.prog = true := RowK.laid
def IsRow (k : IntKind) (w : World) (a : Option Addr) (len cap : Nat) (zs : List Int) : Prop :=
  (a = none ∧ len = 0 ∧ cap = 0 ∧ zs = []) ∨
  ∃ x, a = some x ∧ len ≤ cap ∧ cap ≤ maxLen ∧ zs.length = cap ∧ (∀ i, i < zs.length → w.cell? (x.add i) = some (.int k (zs.getD i 0))) ∧ ∀ n ∈ zs, (Lit.int k n).wf = true
set_option maxRecDepth 100000 in
theorem lifted (os : Os) (started : os.Started) (H : Type) (enc : TypeId × Value → H) :
    ReturnsInHanded {} Try.checked os 8 .any (Rows.wireGoodSpec.pre6 enc Try.prog Try.f8 Rows.wireGoodRow.domain false) (Rows.wireGoodSpec.post enc Try.prog Try.f8 false true false false) := by
  refine returnsInHanded_of_change_sized (C := Try.checked) own started (by kernel_rfl) Try.func8
    (ChangeSpec.witness6 (enc := enc) (C := Try.checked) false ⟨#[], #[.slice none 0 0], []⟩ 8 (by kernel_rfl) (by kernel_rfl) (by kernel_rfl) (by kernel_rfl)) ?_
  intro W base args ds gs before hval0 hW hcnd hsz0 _
  have hsz : (DataW.weightsEach Try.prog (Try.f8.params.toList ++ Rows.wireGoodSpec.plain.varTypes Try.prog) (ds ++ gs)).all (· ≤ reachBytes) = true := hsz0
  have hval : ∀ (j : Nat) t v, Try.f8.params[j]? = some t → args[j]? = some v → Value.okWide Try.prog W .any base t v := hval0
  have hW' := hW
  obtain ⟨p, q, hA0, hV, rfl, hfz, hnd⟩ := hW
  have hA : DataW.TrodAll enc Try.prog W 0 (fun _ => true) true Try.f8.params.toList args.toList ds p := hA0
  rw [Try.params8] at hA hval hsz
  obtain ⟨v0, vs0, d0, ds0, p0, q0, hargs, rfl, rfl, h0, r0⟩ := trodAll_cons hA
  obtain ⟨rfl, rfl, rfl⟩ := trodAll_nil r0
  obtain rfl : args = #[v0] := by cases args; simp_all
  obtain ⟨rfl, rfl⟩ := trodVars_none hV
  obtain ⟨a0, len0, cap0, rfl⟩ := okWide_slice Try.underlying22 (hval 0 22 v0 rfl rfl)
  have k0 := h0
  have lt0 : ∀ x ∈ p0, x.block < W.heap.size := by obtain ⟨m, hm⟩ := k0; exact DataW.trod_lt m _ _ _ hm
  obtain ⟨z0, w0⟩ : ∃ zs, IsRow .u8 W a0 len0 cap0 zs := by
    obtain ⟨fuel, hf⟩ := h0
    rcases open_ints Try.underlying22 Try.underlying5 (by kernel_rfl) hf with ⟨hcs, _⟩ | ⟨x, l, c, zs, hcs, _, hl, hm, hz, _, hcell, hwz⟩
    · simp [Value.cells] at hcs
      obtain ⟨rfl, rfl, rfl⟩ := hcs
      exact ⟨[], .inl ⟨rfl, rfl, rfl, rfl⟩⟩
    · simp [Value.cells] at hcs
      obtain ⟨rfl, rfl, rfl⟩ := hcs
      exact ⟨zs, .inr ⟨_, rfl, hl, hm, by simpa using hz, hcell, hwz⟩⟩
  have y0 : len0 * 1 ≤ 140737488351232 := Go.Proofs.YtcilcmbailoeaaaW.PrintWords.sized_ints hsz (j := 0) (t := 22) rfl rfl Try.underlying22 Try.underlying5 (by kernel_rfl) (by kernel_rfl) h0
  clear hA0 hval0 hsz0 hsz
  refine (KW.kedgelaw04_WireGood.walk Pure.WireGood a0 len0 cap0 z0 W w0 y0).mono fun e W' ⟨he, bel⟩ => ?_
  subst he
  exact ⟨_, rfl, _, _, _, [], _, [], hW', trodAll_mk1 (shut_bool Try.underlying4 _), (trodAll_cons_mk (Below.trod laidOut (by kernel_rfl) (of_decide_eq_true (by kernel_rfl)) k0 bel lt0) trodAll_mk0), rfl, bel.frame _, fun h => by cases h⟩
theorem named : Try.prog.funcNamed Rows.wireGoodRow.func = some 8 := by kernel_rfl
theorem c1 : Rows.wireGoodRow.wf (OpenSpec.ofChange Rows.wireGoodSpec) = true := by kernel_rfl
theorem c4 : Try.f8.params.all (Try.prog.readableRec ·) = true := by kernel_rfl
theorem c5 : namedTie Try.prog Rows.wireGoodRow.named Rows.wireGoodSpec.vars = true := by kernel_rfl
theorem c6 : (Rows.wireGoodRow.stops == []) = true := by kernel_rfl
theorem c8 : (Rows.wireGoodRow.knobs == []) = true := by kernel_rfl
theorem c10 : (Rows.wireGoodRow.inPlace == Try.prog.inPlace 8) = true := by kernel_rfl
theorem c11 : (Rows.wireGoodRow.unfollowed == Try.prog.unfollowed 8) = true := by kernel_rfl
theorem c12 : (Rows.wireGoodRow.recurses == Try.prog.recurses 8) = true := by kernel_rfl
theorem c13 : (Rows.wireGoodRow.named == Try.prog.varsNamed 8) = true := by kernel_rfl
theorem c14 : (Rows.wireGoodRow.maps == (Try.f8.params.toList ++ Rows.wireGoodSpec.plain.varTypes Try.prog).any (Try.prog.mapsRec ·)) = true := by kernel_rfl
theorem c15 : (Rows.wireGoodRow.ifaces == (Try.f8.params.toList ++ Rows.wireGoodSpec.plain.varTypes Try.prog).any (Try.prog.ifacesRec ·)) = true := by kernel_rfl
theorem c16 : (Rows.wireGoodRow.mapsOut == Try.prog.mapsAmong Try.f8.resultTypes.toList) = true := by kernel_rfl
theorem c17 : (Rows.wireGoodRow.loops == (Try.f8.params.toList ++ Rows.wireGoodSpec.plain.varTypes Try.prog).any (Try.prog.loopsFrom ·)) = true := by kernel_rfl
theorem c18 : (Rows.wireGoodRow.wideKeys == (Try.f8.params.toList ++ Rows.wireGoodSpec.plain.varTypes Try.prog ++ Try.f8.resultTypes.toList).any (Try.prog.wideKeysFrom ·)) = true := by kernel_rfl
theorem c19 : Rows.wireGoodSpec.vars.all (Try.prog.varReadable ·) = true := by kernel_rfl
theorem c20 : Try.f8.resultTypes.all (fun t => Try.prog.readableRec t && decide (t < Try.prog.types.size)) = true := by kernel_rfl
theorem c21 : (Rows.wireGoodRow.ifacesOut == Try.f8.resultTypes.toList.any (Try.prog.ifacesRec ·)) = true := by kernel_rfl
theorem c22 : (Rows.wireGoodRow.loopsOut == Try.f8.resultTypes.toList.any (Try.prog.loopsFrom ·)) = true := by kernel_rfl
theorem c24 : Rows.wireGoodRow.shortTexts.isNone = true := by kernel_rfl
theorem c29 : (Rows.wireGoodRow.kinds == (if Rows.wireGoodRow.domain.isEmpty then [] else Try.f8.params.toList.map fun t => match Try.prog.underlying t with | some (.int k) => some k | _ => none)) = true := by kernel_rfl
theorem c30 : (Rows.wireGoodRow.pinned == Rows.wireGoodRow.pinnedBy) = true := by kernel_rfl
theorem c31 : (Rows.wireGoodRow.veiled == (Try.f8.params.toList ++ Rows.wireGoodSpec.plain.varTypes Try.prog ++ Try.f8.resultTypes.toList).any (Try.prog.veiledRec ·)) = true := by kernel_rfl
theorem c32 : Rows.wireGoodRow.veiledFits Try.prog Try.f8.params.toList (Try.f8.params.toList ++ Rows.wireGoodSpec.plain.varTypes Try.prog ++ Try.f8.resultTypes.toList) = true := by kernel_rfl
theorem c23 : (Rows.wireGoodRow.plainKeys == Try.prog.plainKeys) = true := RowK.eq_of_true RowK.plain
theorem c27 : (Rows.wireGoodRow.lifted == Try.prog.liftsFinal) = true := RowK.eq_of_false RowK.final
theorem c28 : (Try.prog.make == some Rows.wireGoodRow.make) = true := by rw [RowK.make]; rfl
set_option maxRecDepth 100000 in
theorem closed : joinedFacts Try.prog 8 Try.f8 Rows.wireGoodSpec Rows.wireGoodRow = true := by
  unfold joinedFacts
  exact (RowK.both (RowK.both (RowK.both (RowK.both (RowK.both (RowK.both (RowK.both (RowK.both (RowK.both (RowK.both (RowK.both (RowK.both (RowK.both (RowK.both (RowK.both (RowK.both (RowK.both (RowK.both (RowK.both (RowK.both (RowK.both (RowK.both (RowK.both (RowK.both (RowK.both (RowK.both (RowK.both (RowK.both (RowK.both (RowK.both (RowK.both c1 RowK.laid) RowK.mapsR) c4) c5) c6) RowK.stops) c8) RowK.stopKnobs) c10) c11) c12) c13) c14) c15) c16) c17) c18) c19) c20) c21) c22) c23) c24) RowK.heard) RowK.enter) c27) c28) c29) c30) c31) c32)
theorem over : Rows.wireGoodRow.holds Try.pinned (OpenSpec.ofChange Rows.wireGoodSpec) :=
  OpenClaim.holds_of_wide 8 Try.f8 rfl rfl rfl rfl rfl rfl rfl ⟨rfl, rfl, rfl, rfl, rfl⟩ rfl rfl rfl rfl rfl named Try.func8 closed
    (of_decide_eq_true (by kernel_rfl)) (by unfold Func.isWrapper; first | (rw [if_pos (by decide +kernel)]; kernel_rfl) | (rw [if_neg (by decide +kernel)]; exact ⟨rfl, rfl⟩))
    (fun os started H enc _ => lifted os started H enc)
theorem proved : Rows.WireGoodSaid := over
#print axioms proved
end Go.Proofs.Ytcilcmbailoeaaa.wireGood
namespace Go.Proofs.Ytcilcmbailoeaaa
/-- The row, under a short name, for the claim. -/
theorem wireGood_holds : Rows.WireGoodSaid := wireGood.proved
end Go.Proofs.Ytcilcmbailoeaaa
