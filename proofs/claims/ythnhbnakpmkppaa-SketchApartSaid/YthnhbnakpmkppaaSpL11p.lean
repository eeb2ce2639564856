/- Laws kept: layer 11. -/
import Derived.Test.YthnhbnakpmkppaaSpL11t
set_option linter.all false
set_option maxRecDepth 10000
namespace Sp
open Go Go.Proofs Sx Go.Proofs.Ythnhbnakpmkppaa.Ma
theorem p_wake11 : T_wake11 := by
  intro _ _
  have w0 : wfP (0, 0, false, 0) := ⟨⟨by decide, by decide⟩, ⟨by decide, by decide⟩⟩
  have hz : saneP (0, 0, false, 0) = true := by decide +kernel
  have k0 := okK_new 2 16
  have k1 := okK_add k0 (0, 0, false, 0)
  have k2 := okK_add k1 (0, 0, false, 0)
  have k3 := okK_add k2 (0, 0, false, 0)
  have l1 := addK_len k0 (0, 0, false, 0)
  have l2 := (addK_len k1 (0, 0, false, 0)).trans l1
  have l3 := (addK_len k2 (0, 0, false, 0)).trans l2
  have v1 := addK_w (newK 2 16) (0, 0, false, 0)
  have v2 := (addK_w (addK (newK 2 16) (0, 0, false, 0)) (0, 0, false, 0)).trans v1
  have v3 := (addK_w (addK (addK (newK 2 16) (0, 0, false, 0)) (0, 0, false, 0)) (0, 0, false, 0)).trans v2
  have c0 := count_new 2 16 (0, 0, false, 0)
  have c1 := count_add_same k0 hz
  have c2 := count_add_same k1 hz
  have c3 := count_add_same k2 hz
  have c4 := count_dec k3 (0, 0, false, 0)
  have r0 : rowsK (newK 2 16) = 2 := by decide +kernel
  have r3 := (rowsK_add k2 (0, 0, false, 0)).trans ((rowsK_add k1 (0, 0, false, 0)).trans (rowsK_add k0 (0, 0, false, 0)))
  have r4 := (decK_rows (addK (addK (addK (newK 2 16) (0, 0, false, 0)) (0, 0, false, 0)) (0, 0, false, 0))).trans (r3.trans r0)
  have k4 := okK_dec k3
  have l4 : (decK (addK (addK (addK (newK 2 16) (0, 0, false, 0)) (0, 0, false, 0)) (0, 0, false, 0))).1.length = (newK 2 16).1.length := by
    refine Eq.trans ?_ l3
    exact List.length_map ..
  have v4 : (decK (addK (addK (addK (newK 2 16) (0, 0, false, 0)) (0, 0, false, 0)) (0, 0, false, 0))).2 = (newK 2 16).2 := v3
  refine ⟨(2, 16), rfl, rfl, trivial, fun _ _ => ⟨(newK 2 16, (0, 0, false, 0)), rfl, rfl, rfl, rfl, rfl, rfl, rfl, ⟨k0, w0⟩, fun _ _ => ⟨(addK (newK 2 16) (0, 0, false, 0), (0, 0, false, 0)), rfl, rfl, rfl, rfl, l1.symm, v1.symm, rfl, ⟨k1, w0⟩, fun _ _ => ⟨(addK (addK (newK 2 16) (0, 0, false, 0)) (0, 0, false, 0), (0, 0, false, 0)), rfl, rfl, rfl, rfl, l2.symm, v2.symm, rfl, ⟨k2, w0⟩, fun _ _ => ⟨(addK (addK (addK (newK 2 16) (0, 0, false, 0)) (0, 0, false, 0)) (0, 0, false, 0), (0, 0, false, 0)), rfl, rfl, rfl, rfl, l3.symm, v3.symm, rfl, ⟨k3, w0⟩, fun _ _ => ⟨addK (addK (addK (newK 2 16) (0, 0, false, 0)) (0, 0, false, 0)) (0, 0, false, 0), l3.symm, v3.symm, rfl, k3, fun _ _ => ifB_tb hz (ifB_eq ?_ ⟨(decK (addK (addK (addK (newK 2 16) (0, 0, false, 0)) (0, 0, false, 0)) (0, 0, false, 0)), (0, 0, false, 0)), rfl, rfl, rfl, rfl, l4.symm, v4.symm, rfl, ⟨k4, w0⟩, fun _ _ => ifB_eq ?_ ⟨decK (addK (addK (addK (newK 2 16) (0, 0, false, 0)) (0, 0, false, 0)) (0, 0, false, 0)), l4.symm, v4.symm, rfl, k4, ?_, ?_, ?_, ?_⟩⟩)⟩⟩⟩⟩⟩⟩
  · dsimp only; omega
  · dsimp only; omega
  · intro _ h; omega
  · intro _ _; exact ⟨(), trivial, by decide, trivial⟩
  · intro _ h; omega
  · intro _ h; omega
theorem p_none11 : T_none11 := fun p _ => ⟨(), trivial, fun _ _ => ⟨by omega, by omega, by omega, by omega, by omega, by omega, by omega, by omega, by omega, by omega, (), trivial, rfl, trivial⟩⟩
theorem GS3 : Goods Try.prog S3 := goods_cons (good_of_owes hM hP GK Try.func12 rfl (o_wake11 ▸ p_wake11)) GK
theorem GSn : Goods Try.prog Sn := goods_cons (GS3 _ _ rfl) (goods_cons (GW0 _ _ rfl) (goods_nil _))
theorem wf_pf {p : Pf} (h : ∀ l ∈ leafs pf4K p, l.wf) : wfP p := by
  obtain ⟨hi, lo, v6, n⟩ := p
  have h1 : (L.i .u64 hi).wf := h _ (by simp [leafs, Kd.leaf])
  have h2 : (L.i .u64 lo).wf := h _ (by simp [leafs, Kd.leaf])
  simp only [L.wf, Sx.lo, Sx.hi] at h1 h2
  exact ⟨⟨h1.1, by show hi < _; omega⟩, h2.1, by show lo < _; omega⟩
theorem g_none11 : Good Try.prog 4 NoneL := good_of_owes hM hP GSn Try.func4 rfl (o_none11 ▸ p_none11)
theorem law_none11 (p : Pf) (h : ∀ l ∈ leafs pf4K p, l.wf) : NoneL.pre p := wf_pf h
-- LAW SketchNone kedgelaw11.SketchNone Sp.g_none11 Sp.law_none11
end Sp
