/- kedgelaw19.SumsAre: of any bytes the sum, whether they check, they filled anywhere; of any words added, and any sum patched: all is what the document says. For all bytes and words, no condition. -/
import Derived.Test.YtcilcmbailoeaaaLemF
import Derived.Test.YtcilcmbailoeaaaKSx4
namespace Go.Proofs.Ytcilcmbailoeaaa.Pure
open Go.RowKit Go.Proofs.Ytcilcmbailoeaaa.KS Go.Proofs.YtcilcmbailoeaaaW.PrintWords Go.Proofs.YtcilcmbailoeaaaW.PrintLast

theorem ref_add (x y : Int) (hx0 : 0 ≤ x) (hx1 : x ≤ 65535) (hy0 : 0 ≤ y) (hy1 : y ≤ 65535) : kedgeref19_Add.f x y = some (red (x + y)) := by
  unfold kedgeref19_Add.f
  rw [IntWalk.wrap64_in x (by omega), IntWalk.wrap64_in y (by omega), IntWalk.wrap64_in (x + y) (by omega), IntWalk.wrap64_in (x + y - 65535) (by omega)]
  by_cases h : x + y ≥ 65536
  · rw [if_pos h, IntWalk.u16_in _ (by omega)]
    congr 1
    unfold red
    rw [if_neg (by omega)]; omega
  · rw [if_neg h, IntWalk.u16_in _ (by omega)]
    congr 1
    unfold red
    split <;> omega
theorem rd_drop (l : List Int) (j : Nat) (x : Int) (t : List Int) (h : l.drop j = x :: t) : rd l (j : Int) = x ∧ j < l.length ∧ l.drop (j + 1) = t := by
  have hj : j < l.length := by
    rcases Nat.lt_or_ge j l.length with h1 | h1
    · exact h1
    · rw [List.drop_eq_nil_of_le h1] at h; cases h
  rw [List.drop_eq_getElem_cons hj] at h
  injection h with h1 h2
  refine ⟨?_, hj, h2⟩
  unfold rd
  rw [Int.toNat_natCast, List.getD_eq_getElem?_getD, List.getElem?_eq_getElem hj]
  exact h1
theorem red_red (n : Int) : red (red n) = red n := by have := red_bd n; unfold red at *; split <;> split <;> omega
theorem ref_sum (l : List Int) (hl : l.length ≤ 140737488355328) (hok : okb l) : ∀ (d : Nat) (j : Nat) (n : Int), l.length - j ≤ d → 0 ≤ n → n ≤ 65535 → j ≤ l.length + 1 →
    Ev (fun k => kedgeref19_Sum.l0 k l n (j : Int)) (65535 - red (n + wsum (l.drop j))) := by
  intro d
  induction d using Nat.strongRecOn with
  | _ d ih =>
    intro j n hd h0 h1 hj
    refine Ev.step (f := fun k => kedgeref19_Sum.l0 (k + 1) l n (j : Int)) (fun k => rfl) ?_
    simp only [kedgeref19_Sum.l0]
    have hdr : ∀ y ∈ l.drop j, 0 ≤ y ∧ y ≤ 255 := fun y hy => hok y (List.mem_of_mem_drop hy)
    match hl2 : l.drop j with
    | [] =>
      have hge : l.length ≤ j := by
        have := congrArg List.length hl2
        simp at this; omega
      refine ev_neg (by omega) ?_
      have e : red (n + wsum []) = n := by simp only [wsum]; unfold red; split <;> omega
      rw [e, IntWalk.u16_in _ (by omega)]
      exact Ev.now _
    | [x] =>
      obtain ⟨hx, hjl, hnx⟩ := rd_drop l j x [] hl2
      have hbx := hdr x (by rw [hl2]; simp)
      have hlen : l.length = j + 1 := by have := congrArg List.length hl2; simp at this; omega
      refine ev_pos (by omega) ?_
      refine ev_pos (by omega) ?_
      rw [IntWalk.wrap64_in ((j : Int) + 1) (by omega), IntWalk.wrap64_in ((j : Int) + 2) (by omega), hx, IntWalk.u16_in x (by omega), IntWalk.u16_in (x * 256) (by omega)]
      refine ev_neg (by omega) ?_
      refine ev_some (ref_add n (x * 256) h0 h1 (by omega) (by omega)) ?_
      have hb := red_bd (n + x * 256)
      have hn := ih (l.length - (j + 2)) (by omega) (j + 2) (red (n + x * 256)) (Nat.le_refl _) hb.1 hb.2 (by omega)
      rw [List.drop_eq_nil_of_le (by omega)] at hn
      rw [show red (n + wsum [x]) = red (red (n + x * 256) + wsum []) from by simp only [wsum, Int.add_zero]; rw [red_red]]
      exact hn
    | x :: y :: t =>
      obtain ⟨hx, hjl, hnx⟩ := rd_drop l j x (y :: t) hl2
      obtain ⟨hy, hjl2, hnx2⟩ := rd_drop l (j + 1) y t hnx
      have hbx := hdr x (by rw [hl2]; simp)
      have hby := hdr y (by rw [hl2]; simp)
      have hw := wsum_bd t (fun z hz => hdr z (by rw [hl2]; simp [hz]))
      refine ev_pos (by omega) ?_
      refine ev_pos (by omega) ?_
      rw [IntWalk.wrap64_in ((j : Int) + 1) (by omega), IntWalk.wrap64_in ((j : Int) + 2) (by omega), hx, show ((j : Int) + 1) = ((j + 1 : Nat) : Int) from by omega, hy, IntWalk.u16_in x (by omega), IntWalk.u16_in y (by omega), IntWalk.u16_in (x * 256) (by omega), IntWalk.u16_in (x * 256 + y) (by omega)]
      refine ev_pos (by omega) ?_
      refine ev_pos (by omega) ?_
      refine ev_some (ref_add n (x * 256 + y) h0 h1 (by omega) (by omega)) ?_
      have hb := red_bd (n + (x * 256 + y))
      have hn := ih (l.length - (j + 2)) (by omega) (j + 2) (red (n + (x * 256 + y))) (Nat.le_refl _) hb.1 hb.2 (by omega)
      rw [show l.drop (j + 2) = t from hnx2] at hn
      have e : red (n + wsum (x :: y :: t)) = red (red (n + (x * 256 + y)) + wsum t) := by
        simp only [wsum]
        rw [← Int.add_assoc, red_add (n + (x * 256 + y)) (wsum t) (by omega) hw.1, red_add (red (n + (x * 256 + y))) (wsum t) hb.1 hw.1, red_red]
      rw [e]
      exact hn
theorem ev_refsum (l : List Int) (hl : l.length ≤ 140737488355328) (hok : okb l) : Ev (fun k => kedgeref19_Sum.f k l) (65535 - red (wsum l)) := by
  have h := ref_sum l hl hok l.length 0 0 (by omega) (by omega) (by omega) (by omega)
  rw [Int.zero_add, List.drop_zero] at h
  exact h
theorem ev_reffill (l : List Int) (a : Int) (hl : l.length ≤ 3000) (hok : okb l) (ha0 : -9223372036854775808 ≤ a) (ha1 : a ≤ 9223372036854775807) :
    ∃ r b, sums_Fill.f l a = some (r, b) ∧ Ev (fun k => kedgeref19_Fill.f k l a) (r, b) := by
  unfold sums_Fill.f
  rw [if_pos ⟨hok, by omega⟩]
  unfold kedgeref19_Fill.f
  simp only [Option.bind_some, List.nil_append, List.length_nil, Nat.zero_add]
  rw [IntWalk.wrap64_in ((l.length : Int) - 1) (by omega)]
  by_cases h1 : a < 0
  · rw [if_neg (by omega)]
    exact ⟨l, false, rfl, ev_pos (by omega) (ev_pos h1 (Ev.now _))⟩
  by_cases h2 : a ≥ (l.length : Int) - 1
  · rw [if_neg (by omega)]
    exact ⟨l, false, rfl, ev_pos (by omega) (ev_neg h1 (ev_pos h2 (Ev.now _)))⟩
  rw [Int.tmod_eq_emod_of_nonneg (by omega), IntWalk.wrap64_in (a + 1) (by omega)]
  by_cases h3 : a % 2 = 0
  · rw [if_pos ⟨by omega, h3, by omega⟩]
    obtain ⟨m, rfl⟩ : ∃ m : Nat, a = 2 * (m : Int) := ⟨a.toNat / 2, by omega⟩
    rw [show (2 * (m : Int)).toNat / 2 = m from by omega, show (2 * (m : Int)).toNat = 2 * m from by omega, show (2 * (m : Int) + 1).toNat = 2 * m + 1 from by omega]
    refine ⟨fillAt l m, true, rfl, ?_⟩
    refine ev_pos (by omega) (ev_neg h1 (ev_neg h2 (ev_pos h3 (ev_pos (by omega) (ev_pos (by omega) (ev_pos (by omega) (ev_pos (by omega) ?_)))))))
    have hz := okb_zero hok m
    have hb := red_bd (wsum ((l.set (2 * m) 0).set (2 * m + 1) 0))
    refine Ev.bind (ev_refsum _ (by simp; omega) hz) ?_
    rw [Int.tdiv_eq_ediv_of_nonneg (by omega), Int.tmod_eq_emod_of_nonneg (by omega), IntWalk.u16_in _ (by omega)]
    have e1 : (65535 - red (wsum ((l.set (2 * m) 0).set (2 * m + 1) 0))) / 256 % 256 = (65535 - red (wsum ((l.set (2 * m) 0).set (2 * m + 1) 0))) / 256 := by omega
    have e2 : (65535 - red (wsum ((l.set (2 * m) 0).set (2 * m + 1) 0))) % 256 % 256 = (65535 - red (wsum ((l.set (2 * m) 0).set (2 * m + 1) 0))) % 256 := by omega
    rw [e1, e2]
    exact Ev.now _
  · rw [if_neg (by omega)]
    exact ⟨l, false, rfl, ev_pos (by omega) (ev_neg h1 (ev_neg h2 (ev_neg h3 (Ev.now _))))⟩
theorem SumsAre : kedgelaw19_SumsAre.Pure := by
  intro l a x y z _ _ hb ha hx hy hz
  replace hb := okb_of hb
  obtain ⟨x0, x1⟩ := u16_bd hx
  obtain ⟨y0, y1⟩ := u16_bd hy
  obtain ⟨z0, z1⟩ := u16_bd hz
  have hai := bounds_i64 ha
  refine Ev.rounds (g := fun k => kedgelaw19_SumsAre.f k l a x y z) ?_
  unfold kedgelaw19_SumsAre.f
  refine Ev.bind ev_awake ?_
  by_cases h1 : (l.length : Int) > 3000
  · exact ev_pos h1 (Ev.now _)
  refine ev_neg h1 ?_
  obtain ⟨r, b, hf, hg⟩ := ev_reffill l a (by omega) hb (by omega) (by omega)
  refine ev_some hf ?_
  refine Ev.bind hg ?_
  refine ev_pos rfl ?_
  refine ev_some (sum_is l hb (by omega)) ?_
  refine Ev.bind (ev_refsum l (by omega) hb) ?_
  refine ev_pos rfl ?_
  refine ev_some (a := (65535 - red (wsum l)) == 0) (by unfold sums_Check.f; rw [sum_is l hb (by omega)]; rfl) ?_
  refine Ev.bind (a := (65535 - red (wsum l)) == 0) (by unfold kedgeref19_Check.f; exact Ev.bind (ev_refsum l (by omega) hb) (Ev.now _)) ?_
  refine ev_pos (by simp) ?_
  refine ev_pos rfl ?_
  refine ev_pos (by simp) ?_
  refine Ev.bind (ev_add x y x0 x1 y0 y1) ?_
  refine ev_some (ref_add x y x0 x1 y0 y1) ?_
  refine ev_pos rfl ?_
  refine Ev.bind (ev_patch x y z x0 x1 y0 y1 z0 z1) ?_
  have hxy := red_bd (65535 - x + (65535 - y))
  have hxyz := red_bd (red (65535 - x + (65535 - y)) + z)
  have hp : kedgeref19_Patch.f x y z = some (65535 - red (65535 - x + (65535 - y) + z)) := by
    unfold kedgeref19_Patch.f
    rw [IntWalk.u16_in (65535 - x) (by omega), IntWalk.u16_in (65535 - y) (by omega), ref_add _ _ (by omega) (by omega) (by omega) (by omega)]
    simp only [Option.bind_some]
    rw [ref_add _ _ hxy.1 hxy.2 z0 z1]
    simp only [Option.bind_some]
    rw [IntWalk.u16_in _ (by omega)]
    congr 2
    rw [red_add (65535 - x + (65535 - y)) z (by omega) z0, red_add (red (65535 - x + (65535 - y))) z hxy.1 z0, red_red]
  refine ev_some hp ?_
  simp only [beq_self_eq_true]
  exact Ev.now _
end Go.Proofs.Ytcilcmbailoeaaa.Pure
