-- Written by kprint.py, a program of this session, over the kit's print.py; functions marked HAND are our own texts.
import Derived.Test.YtcilcmbailoeaaaKWx0
import Derived.Test.YtcilcmbailoeaaaKWx4
namespace Go.Proofs.Ytcilcmbailoeaaa.KW
open Go.RowKit Go.Proofs.YtcilcmbailoeaaaW.PrintWords Go.Proofs.YtcilcmbailoeaaaW.PrintLast Go.Proofs.YtcilcmbailoeaaaW.PrintMore
attribute [local go_sem] max2_int min2_int max_two min_two max_three min_three max_four min_four   -- for this text's walks alone
set_option linter.unusedVariables false
set_option linter.unusedSimpArgs false

/-! ### HAND wire_Get: function 45 -/

theorem long_said (n : Int) (h : 0 ≤ n ∧ n ≤ 255) : wire_long.f n = some ((n + 7) / 8) := by
  unfold wire_long.f
  have e1 : wrap64 (n + 8) = n + 8 := by unfold wrap64; omega
  have e2 : wrap64 (n + 8 - 1) = n + 7 := by unfold wrap64; omega
  rw [e1, e2, Int.tdiv_eq_ediv_of_nonneg (by omega)]
  rw [show wrap64 ((n + 7) / 8) = (n + 7) / 8 from by unfold wrap64; omega]

theorem size2 (w : World) (a b : Obj) (n : Nat) : (((w.alloc a).drewN n).alloc b).heap.size = w.heap.size + 2 := by
  show (Array.push (Array.push w.heap a) b).size = _
  simp
theorem size1 (w : World) (a : Obj) (n : Nat) : w.heap.size + 1 = ((w.alloc a).drewN n).heap.size := by
  show _ = (Array.push w.heap a).size
  simp
theorem blk_new' (w : World) (o : Obj) (k : Nat) (h : k = w.heap.size) : (w.alloc o).heap[k]? = some o := by subst h; exact blk_new w o
theorem cell_below {w W : World} {p : Addr} {v : Value} (h : Below w.heap.size w W) (hc : w.cell? p = some v) : W.cell? p = some v := by
  have hp : p.block < w.heap.size := by
    cases hq : w.heap[p.block]? with
    | none => simp [World.cell?, hq] at hc
    | some o => exact blk_lt hq
  rw [h.cell hp, hc]
/-- What comes behind a prefix's mark. -/
def get_rest (v6 : Bool) (l : List Int) (n : Int) : Option (Int × Int × Bool × Int × Int × Int) :=
  if (if v6 = true then (128 : Int) else 32) < n then some (0, 0, false, 0, 0, 1)
  else if (l.length : Int) < 2 + (n + 7) / 8 then some (0, 0, false, 0, 0, 6)
  else (addr_From.f (splice (List.replicate (if v6 = true then 16 else 4) 0) 0 ((l.drop 2).take ((n + 7) / 8).toNat))).bind fun a => (prefix_Sane.f a.1 a.2.1 a.2.2.1 n).bind fun s =>
    if s = true then some (a.1, a.2.1, a.2.2.1, n, 2 + (n + 7) / 8, 0) else some (0, 0, false, 0, 0, 1)

set_option maxHeartbeats 4000000 in
set_option maxRecDepth 100000 in
theorem get_true (A0 : Option Addr) (c0 : Nat) (l0 : List Int) (n : Int) (w : World) (hr0 : Kd.C (Kd.int .u8) w A0 l0.length l0) (hc0 : l0.length ≤ c0) (h2 : 2 ≤ l0.length) (h46 : rd l0 0 = 6) (hn : 0 ≤ n ∧ n ≤ 255) (hnn : n = rd l0 1) (r1 r2 : Int) (r3 : Bool) (r4 r5 r6 : Int) (h : get_rest true l0 n = some (r1, r2, r3, r4, r5, r6)) :
    Calls Try.prog 45 #[.slice A0 l0.length c0] w fun e w' => e = .returned (.tuple #[.agg #[.int .u64 r1, .int .u64 r2, .bool r3, .int .i64 r4], .int .i64 r5, .int .i64 r6]) ∧ Below w.heap.size w w' := by
  obtain ⟨ad, rfl, hx0⟩ := Kd.at_int hr0 0 (by omega) (by omega)
  obtain ⟨ad1, e1, hx1⟩ := Kd.at_int hr0 1 (by omega) (by omega)
  obtain rfl : ad = ad1 := by injection e1
  clear e1
  rw [h46] at hx0
  simp only [Int.toNat_zero, Int.reduceToNat] at hx0 hx1
  rw [Addr.add_zero'] at hx0
  simp only [Go.Addr.add, ↓reduceIte, Nat.reduceEqDiff] at hx1
  rw [← hnn] at hx1
  have H1 : Hid (∀ W : World, Calls Try.prog 103 #[.bool true] W fun e w' => e = .returned (.int .i64 128) ∧ W = w') := fun W => width_any true W
  have H2 : Hid (∀ W : World, Calls Try.prog 104 #[.int .i64 n] W fun e w' => e = .returned (.int .i64 ((n + 7) / 8)) ∧ Drawn0 W w') := fun W => wire_long.calls n _ W (long_said n hn)
  have y0 : ∀ o1, (w.alloc o1).cell? ad = some (.int .u8 6) := fun o1 => Lib.cell?_alloc_some o1 hx0
  have y1 : ∀ o1, (w.alloc o1).cell? ⟨ad.block, ad.off + 1, none⟩ = some (.int .u8 n) := fun o1 => Lib.cell?_alloc_some o1 hx1
  have b1 : decide ((l0.length : Int) < 2) = false := decide_eq_false (by omega)
  have b2 : 1 < l0.length := by omega
  have b3 : 0 < l0.length := by omega
  have cv : IntKind.i64.wrap n = n := IntWalk.i64_in _ (by omega)
  have HN := Lib.hid hn; clear hn
  have HC := Lib.hid hr0; clear hr0
  have HNN := Lib.hid hnn; clear hnn
  go_enter Try.func45, Try.ntmps45
  go_wp2_with fail
  go_cut [5, 6] (fun v5 v6 wx => v5 = .int .i64 n ∧ v6 = .int .i64 128 ∧ wx = (w.alloc (.cells #[.int .u64 0, .int .u64 0, .bool false, .int .i64 0] 39)).drew)
  case first =>
    go_region_with (go_at_call 103; refine (H1.out _).mono ?_; rintro e w' ⟨rfl, rfl⟩)
    all_goals (go_wp2_with fail; go_meet; exact ⟨rfl, rfl, rfl⟩)
  case rest =>
  obtain ⟨rfl, rfl, rfl⟩ := hcut
  clear y0 y1 H1
  unfold get_rest at h
  simp only [Bool.false_eq_true, ↓reduceIte] at h
  by_cases b4 : (128 : Int) < n
  · rw [if_pos b4] at h
    have h5 := Option.some.inj h
    simp only [Prod.mk.injEq] at h5
    obtain ⟨rfl, rfl, rfl, rfl, rfl, rfl⟩ := h5
    clear h
    have b4' : decide ((128 : Int) < n) = true := decide_eq_true b4
    go_wp2_with fail
    refine bodyPost_ret (v := .tuple #[.agg #[.int .u64 0, .int .u64 0, .bool false, .int .i64 0], .int .i64 0, .int .i64 1]) (by simp [results, Try.results45, go_sem]) rfl ⟨rfl, ?_⟩
    repeat (first | exact Below.refl _ _ | apply below_alloc | apply below_drew1)
  rw [if_neg b4] at h
  have h' := Lib.hid h; clear h
  have b4' : decide ((128 : Int) < n) = false := decide_eq_false b4
  go_wp2_with fail
  refine (H2.out _).mono ?_
  rintro e w2 ⟨rfl, ⟨⟨m1, rfl⟩⟩⟩
  obtain ⟨k, hk⟩ : ∃ k : Nat, (k : Int) = (n + 7) / 8 := ⟨((n + 7) / 8).toNat, by have := HN.out; omega⟩
  rw [← hk]
  have hk16 : k ≤ 16 := by have := HN.out; omega
  have Hk := Lib.hid hk; clear hk
  have cw : IntKind.i64.wrap (2 + (k : Int)) = 2 + (k : Int) := IntWalk.i64_in _ (by omega)
  have h := h'.out; clear h'
  rw [← Hk.out] at h
  by_cases b5 : (l0.length : Int) < 2 + (k : Int)
  · rw [if_pos b5] at h
    have h5 := Option.some.inj h
    simp only [Prod.mk.injEq] at h5
    obtain ⟨rfl, rfl, rfl, rfl, rfl, rfl⟩ := h5
    clear h
    have b5' : decide ((l0.length : Int) < 2 + (k : Int)) = true := decide_eq_true b5
    go_wp2_with fail
    refine bodyPost_ret (v := .tuple #[.agg #[.int .u64 0, .int .u64 0, .bool false, .int .i64 0], .int .i64 0, .int .i64 6]) (by simp [results, Try.results45, go_sem]) rfl ⟨rfl, ?_⟩
    repeat (first | exact Below.refl _ _ | apply below_alloc | apply pw_below_drewN | apply below_drew1 | refine below_set ?_ (Nat.le_refl _))
  rw [if_neg b5] at h
  have h' := Lib.hid h; clear h
  have b5' : decide ((l0.length : Int) < 2 + (k : Int)) = false := decide_eq_false b5
  have hmk : ∀ W : World, (Instr.makeSlice 22 (.int .i64 16) (.int .i64 16)).run Try.prog W = .ok (.slice (some ⟨W.heap.size, 0, none⟩) 16 16) (W.alloc (.cells #[.int .u8 0, .int .u8 0, .int .u8 0, .int .u8 0, .int .u8 0, .int .u8 0, .int .u8 0, .int .u8 0, .int .u8 0, .int .u8 0, .int .u8 0, .int .u8 0, .int .u8 0, .int .u8 0, .int .u8 0, .int .u8 0] 5)) := fun _ => by kernel_rfl
  go_upto_region 12 with (fail)
  generalize hW : World.alloc (World.drewN (World.alloc w _) _) _ = W
  have hWz : W.heap[w.heap.size + 1]? = some (.cells (List.replicate 16 (Value.int .u8 0)).toArray 5 (0, 0)) := by
    rw [← hW]
    exact blk_new' _ _ _ (size1 _ _ _)
  have hWa : W.heap[w.heap.size]? = some (.cells #[.int .u64 0, .int .u64 0, .bool false, .int .i64 0] 39 (0, 0)) := by
    rw [← hW]
    exact blk_alloc (blk_drewN (blk_new w _) _) _
  have hWB : Below w.heap.size w W := by
    rw [← hW]
    repeat (first | exact Below.refl _ _ | apply below_alloc | apply pw_below_drewN | apply below_drew1)
  have hWs : W.heap.size = w.heap.size + 2 := by
    rw [← hW]
    exact size2 _ _ _ _
  clear hW
  obtain ⟨cs, hcs⟩ : ∃ cs : List Value, cs = ((l0.drop 2).take k).map (Value.int .u8) := ⟨_, rfl⟩
  have hcl : cs.length = k := by rw [hcs]; simp; omega
  have hc1 : ∀ v ∈ cs, v.oneCell' = true := by
    intro v hv
    rw [hcs] at hv
    obtain ⟨x, _, rfl⟩ := List.mem_map.mp hv
    rfl
  have hcel : ∀ j v, cs[j]? = some v → w.cell? (⟨ad.block, ad.off + 2 + j, none⟩ : Addr) = some v := by
    intro j v hv
    have hj : j < k := by rw [← hcl]; exact (List.getElem?_eq_some_iff.mp hv).1
    obtain ⟨ad2, e2, hx⟩ := Kd.at_int HC.out ((2 + j : Nat) : Int) (by omega) (by omega)
    obtain rfl : ad = ad2 := by injection e2
    rw [Int.toNat_natCast] at hx
    have e3 : ad.add (2 + j) = ⟨ad.block, ad.off + 2 + j, none⟩ := by
      simp [Go.Addr.add]
      omega
    rw [e3] at hx
    rw [hx]
    rw [hcs] at hv
    simp only [List.getElem?_map, List.getElem?_take, List.getElem?_drop] at hv
    rw [if_pos hj] at hv
    rw [List.getElem?_eq_getElem (by omega)] at hv
    simp only [Option.map_some, Option.some.injEq] at hv
    rw [← hv]
    unfold rd
    rw [Int.toNat_natCast, List.getD_eq_getElem?_getD, List.getElem?_eq_getElem (by omega)]
    rfl
  go_cut [] (fun wx => wx.heap[w.heap.size + 1]? = some (.cells (splice (List.replicate 16 (Value.int .u8 0)) 0 cs).toArray 5 (0, 0)) ∧ wx.heap[w.heap.size]? = some (.cells #[.int .u64 0, .int .u64 0, .bool false, .int .i64 0] 39 (0, 0)) ∧ Below w.heap.size w wx)
  case first =>
    have HCS := Lib.hid hcs; clear hcs
    have HCL := Lib.hid hcl; clear hcl
    have HCE := Lib.hid hcel; clear hcel
    have HWz := Lib.hid hWz; clear hWz
    have HWa := Lib.hid hWa; clear hWa
    have HWB := Lib.hid hWB; clear hWB
    have HWs := Lib.hid hWs; clear hWs
    by_cases hc2 : c0 = 2
    · subst hc2
      have hk0 : k = 0 := by omega
      subst hk0
      go_wp2_with ((with_reducible refine gate_dst (N := 55) rfl ?_); go_loud (refine wpList_copy_splice rfl (.tmp 51) (.tmp 54) 22 22 rfl 5 Try.underlying22 (by kernel_rfl) _ _ _ _ _ _ rfl rfl (w.heap.size + 1) 0 (List.replicate 16 (Value.int .u8 0)) 5 HWz.out cs ?g2 ?g3 ?g4 hc1 (w.heap.size + 1) W (Below.refl _ _) (Nat.le_refl _) ?_); (case g2 => go_loud (rw [HCL.out]; first | exact (Nat.min_eq_left hk16).symm | (rw [Nat.add_sub_cancel_left]; exact (Nat.min_eq_left hk16).symm))); (case g3 => go_loud (exact (fun h0 => absurd h0 (by rw [HCL.out]; omega)))); (case g4 => go_loud (simp only [List.length_replicate]; rw [HCL.out]; omega)); intro w3 hg3 hb3)
      go_meet
      exact ⟨hg3, (hb3.block _ (Nat.lt_succ_self _)).trans HWa.out, HWB.out.trans (hb3.mono (Nat.le_succ _))⟩
    · have hc3 : 2 + k ≤ c0 := by omega
      have hc4 : 2 + (k : Int) ≤ (c0 : Int) := by omega
      have hc5 : 2 + k - 2 = k := by omega
      go_wp2_with ((with_reducible refine gate_dst (N := 55) rfl ?_); go_loud (refine wpList_copy_splice rfl (.tmp 51) (.tmp 54) 22 22 rfl 5 Try.underlying22 (by kernel_rfl) _ _ _ _ _ _ rfl rfl (w.heap.size + 1) 0 (List.replicate 16 (Value.int .u8 0)) 5 HWz.out cs ?g2 ?g3 ?g4 hc1 (w.heap.size + 1) W (Below.refl _ _) (Nat.le_refl _) ?_); (case g2 => go_loud (rw [HCL.out]; first | exact (Nat.min_eq_left hk16).symm | (rw [Nat.add_sub_cancel_left]; exact (Nat.min_eq_left hk16).symm))); (case g3 => go_loud (exact (fun h0 => ⟨rfl, ⟨ad.block, ad.off + 2, none⟩, rfl, fun j v hv => by rw [show (⟨ad.block, ad.off + 2, none⟩ : Addr).add j = ⟨ad.block, ad.off + 2 + j, none⟩ from by simp [Go.Addr.add]]; exact cell_below HWB.out (HCE.out j v hv)⟩))); (case g4 => go_loud (simp only [List.length_replicate]; rw [HCL.out]; omega)); intro w3 hg3 hb3)
      go_meet
      exact ⟨hg3, (hb3.block _ (Nat.lt_succ_self _)).trans HWa.out, HWB.out.trans (hb3.mono (Nat.le_succ _))⟩
  case rest =>
  obtain ⟨hz, ha, hB⟩ := hcut
  clear hcel hWz hWa hWB hWs
  have h := h'.out; clear h'
  obtain ⟨⟨a1, a2, a3, a4⟩, hF, h⟩ := Option.bind_eq_some_iff.mp h
  obtain ⟨sn, hS, h⟩ := Option.bind_eq_some_iff.mp h
  simp only [] at hS h
  rw [show ((k : Int)).toNat = k from rfl] at hF
  obtain ⟨X, hX⟩ : ∃ X, X = splice (List.replicate 16 (0 : Int)) 0 ((l0.drop 2).take k) := ⟨_, rfl⟩
  have hF : addr_From.f X = some (a1, a2, a3, a4) := by rw [hX]; exact hF
  have hXl : X.length = 16 := by
    rw [hX, length_splice _ _ _ (by simp; omega)]
    simp
  have hXm : splice (List.replicate 16 (Value.int .u8 0)) 0 cs = X.map (Value.int .u8) := by
    rw [hX, hcs]
    simp [splice]
  rw [hXm] at hz
  have HFrom : Hid (Calls Try.prog 100 #[.slice (some ⟨w.heap.size + 1, 0, none⟩) 16 16] wc fun e w' => e = .returned (.tuple #[.agg #[.int .u64 a1, .int .u64 a2, .bool a3], .int .i64 a4]) ∧ Below wc.heap.size wc w') := by
    have hR : Kd.R (Kd.int .u8) 5 wc 0 (fun _ => True) (.slice (some ⟨w.heap.size + 1, 0, none⟩) X.length X.length) X := R_block X hz (Nat.zero_le _) (by simp) (by rw [hXl]; unfold maxLen; omega) trivial
    have := addr_From.calls (some ⟨w.heap.size + 1, 0, none⟩) X.length X a1 a2 a3 a4 wc (Kd.R_reads' hR).2.2 (Nat.le_refl _) hF
    rw [hXl] at this
    exact this
  have HS : Hid (∀ W : World, Calls Try.prog 47 #[.agg #[.int .u64 a1, .int .u64 a2, .bool a3, .int .i64 n]] W fun e w' => e = .returned (.bool sn) ∧ Below W.heap.size W w') := fun W => prefix_Sane.calls a1 a2 a3 n sn W hS
  have HB := Lib.hid hB; clear hB
  have HA := Lib.hid ha; clear ha
  have h' := Lib.hid h; clear h
  clear hF hS hz hXm hXl hX hcl hcs
  go_wp2_with fail
  refine HFrom.out.mono ?_
  rintro e w3 ⟨rfl, hb3⟩
  have ha3 := blk_below HA.out hb3
  have hB3 := below_step HB.out hb3
  have HA3 := Lib.hid ha3; clear ha3
  have HB3 := Lib.hid hB3; clear hB3
  clear HA HB HFrom hb3
  go_wp2_with fail
  refine (HS.out _).mono ?_
  rintro e w5 ⟨rfl, hb5⟩
  have ha5 := blk_below (blk_alloc (blk_alloc HA3.out _) _) hb5
  have hB5 := below_step (below_alloc (below_alloc HB3.out _) _) hb5
  have hp5 : w5.heap[w3.heap.size + 1]? = some (.cells #[.int .u64 a1, .int .u64 a2, .bool a3, .int .i64 n] 39 (0, 0)) := blk_below (blk_new' _ _ _ (by show _ = (Array.push _ _).size; simp)) hb5
  clear hb5
  have h := h'.out; clear h'
  cases sn with
  | true =>
    rw [if_pos rfl] at h
    have h5 := Option.some.inj h
    simp only [Prod.mk.injEq] at h5
    obtain ⟨rfl, rfl, rfl, rfl, rfl, rfl⟩ := h5
    clear h
    have hd0 : w5.cell? ⟨w.heap.size, 0, none⟩ = some (.int .u64 0) := (blk_cell ha5 0).trans rfl
    have hd1 : w5.cell? ⟨w.heap.size, 1, none⟩ = some (.int .u64 0) := (blk_cell ha5 1).trans rfl
    have hd2 : w5.cell? ⟨w.heap.size, 2, none⟩ = some (.bool false) := (blk_cell ha5 2).trans rfl
    have hd3 : w5.cell? ⟨w.heap.size, 3, none⟩ = some (.int .i64 0) := (blk_cell ha5 3).trans rfl
    have hf0 := blk_frozen ha5 0
    have hf1 := blk_frozen ha5 1
    have hf2 := blk_frozen ha5 2
    have hf3 := blk_frozen ha5 3
    have hq0 : w5.cell? ⟨w3.heap.size + 1, 0, none⟩ = some (.int .u64 a1) := (blk_cell hp5 0).trans rfl
    have hq1 : w5.cell? ⟨w3.heap.size + 1, 1, none⟩ = some (.int .u64 a2) := (blk_cell hp5 1).trans rfl
    have hq2 : w5.cell? ⟨w3.heap.size + 1, 2, none⟩ = some (.bool a3) := (blk_cell hp5 2).trans rfl
    have hq3 : w5.cell? ⟨w3.heap.size + 1, 3, none⟩ = some (.int .i64 n) := (blk_cell hp5 3).trans rfl
    have HA5 := Lib.hid ha5
    have HB5 := Lib.hid hB5
    clear ha5 hB5 hp5 HA3 HB3
    go_wp2_with fail
    refine bodyPost_ret (v := .tuple #[.agg #[.int .u64 a1, .int .u64 a2, .bool a3, .int .i64 n], .int .i64 (2 + (k : Int)), .int .i64 0]) (by simp [results, Try.results45, go_sem, *]) rfl ⟨rfl, ?_⟩
    repeat (first | exact HB5.out | refine below_set ?_ (Nat.le_refl _))
  | false =>
    rw [if_neg (by simp)] at h
    have h5 := Option.some.inj h
    simp only [Prod.mk.injEq] at h5
    obtain ⟨rfl, rfl, rfl, rfl, rfl, rfl⟩ := h5
    clear h
    have hd0 : w5.cell? ⟨w.heap.size, 0, none⟩ = some (.int .u64 0) := (blk_cell ha5 0).trans rfl
    have hd1 : w5.cell? ⟨w.heap.size, 1, none⟩ = some (.int .u64 0) := (blk_cell ha5 1).trans rfl
    have hd2 : w5.cell? ⟨w.heap.size, 2, none⟩ = some (.bool false) := (blk_cell ha5 2).trans rfl
    have hd3 : w5.cell? ⟨w.heap.size, 3, none⟩ = some (.int .i64 0) := (blk_cell ha5 3).trans rfl
    have hf0 := blk_frozen ha5 0
    have hf1 := blk_frozen ha5 1
    have hf2 := blk_frozen ha5 2
    have hf3 := blk_frozen ha5 3
    have hq0 : w5.cell? ⟨w3.heap.size + 1, 0, none⟩ = some (.int .u64 a1) := (blk_cell hp5 0).trans rfl
    have hq1 : w5.cell? ⟨w3.heap.size + 1, 1, none⟩ = some (.int .u64 a2) := (blk_cell hp5 1).trans rfl
    have hq2 : w5.cell? ⟨w3.heap.size + 1, 2, none⟩ = some (.bool a3) := (blk_cell hp5 2).trans rfl
    have hq3 : w5.cell? ⟨w3.heap.size + 1, 3, none⟩ = some (.int .i64 n) := (blk_cell hp5 3).trans rfl
    have HA5 := Lib.hid ha5
    have HB5 := Lib.hid hB5
    clear ha5 hB5 hp5 HA3 HB3
    go_wp2_with fail
    refine bodyPost_ret (v := .tuple #[.agg #[.int .u64 0, .int .u64 0, .bool false, .int .i64 0], .int .i64 0, .int .i64 1]) (by simp [results, Try.results45, go_sem, *]) rfl ⟨rfl, ?_⟩
    repeat (first | exact HB5.out | refine below_set ?_ (Nat.le_refl _))

set_option maxHeartbeats 4000000 in
set_option maxRecDepth 100000 in
theorem get_false (A0 : Option Addr) (c0 : Nat) (l0 : List Int) (n : Int) (w : World) (hr0 : Kd.C (Kd.int .u8) w A0 l0.length l0) (hc0 : l0.length ≤ c0) (h2 : 2 ≤ l0.length) (h46 : rd l0 0 = 4) (hn : 0 ≤ n ∧ n ≤ 255) (hnn : n = rd l0 1) (r1 r2 : Int) (r3 : Bool) (r4 r5 r6 : Int) (h : get_rest false l0 n = some (r1, r2, r3, r4, r5, r6)) :
    Calls Try.prog 45 #[.slice A0 l0.length c0] w fun e w' => e = .returned (.tuple #[.agg #[.int .u64 r1, .int .u64 r2, .bool r3, .int .i64 r4], .int .i64 r5, .int .i64 r6]) ∧ Below w.heap.size w w' := by
  obtain ⟨ad, rfl, hx0⟩ := Kd.at_int hr0 0 (by omega) (by omega)
  obtain ⟨ad1, e1, hx1⟩ := Kd.at_int hr0 1 (by omega) (by omega)
  obtain rfl : ad = ad1 := by injection e1
  clear e1
  rw [h46] at hx0
  simp only [Int.toNat_zero, Int.reduceToNat] at hx0 hx1
  rw [Addr.add_zero'] at hx0
  simp only [Go.Addr.add, ↓reduceIte, Nat.reduceEqDiff] at hx1
  rw [← hnn] at hx1
  have H1 : Hid (∀ W : World, Calls Try.prog 103 #[.bool false] W fun e w' => e = .returned (.int .i64 32) ∧ W = w') := fun W => width_any false W
  have H2 : Hid (∀ W : World, Calls Try.prog 104 #[.int .i64 n] W fun e w' => e = .returned (.int .i64 ((n + 7) / 8)) ∧ Drawn0 W w') := fun W => wire_long.calls n _ W (long_said n hn)
  have y0 : ∀ o1, (w.alloc o1).cell? ad = some (.int .u8 4) := fun o1 => Lib.cell?_alloc_some o1 hx0
  have y1 : ∀ o1, (w.alloc o1).cell? ⟨ad.block, ad.off + 1, none⟩ = some (.int .u8 n) := fun o1 => Lib.cell?_alloc_some o1 hx1
  have b1 : decide ((l0.length : Int) < 2) = false := decide_eq_false (by omega)
  have b2 : 1 < l0.length := by omega
  have b3 : 0 < l0.length := by omega
  have cv : IntKind.i64.wrap n = n := IntWalk.i64_in _ (by omega)
  have HN := Lib.hid hn; clear hn
  have HC := Lib.hid hr0; clear hr0
  have HNN := Lib.hid hnn; clear hnn
  go_enter Try.func45, Try.ntmps45
  go_wp2_with fail
  go_cut [5, 6] (fun v5 v6 wx => v5 = .int .i64 n ∧ v6 = .int .i64 32 ∧ wx = (w.alloc (.cells #[.int .u64 0, .int .u64 0, .bool false, .int .i64 0] 39)).drew)
  case first =>
    go_region_with (go_at_call 103; refine (H1.out _).mono ?_; rintro e w' ⟨rfl, rfl⟩)
    all_goals (go_wp2_with fail; go_meet; exact ⟨rfl, rfl, rfl⟩)
  case rest =>
  obtain ⟨rfl, rfl, rfl⟩ := hcut
  clear y0 y1 H1
  unfold get_rest at h
  simp only [Bool.false_eq_true, ↓reduceIte] at h
  by_cases b4 : (32 : Int) < n
  · rw [if_pos b4] at h
    have h5 := Option.some.inj h
    simp only [Prod.mk.injEq] at h5
    obtain ⟨rfl, rfl, rfl, rfl, rfl, rfl⟩ := h5
    clear h
    have b4' : decide ((32 : Int) < n) = true := decide_eq_true b4
    go_wp2_with fail
    refine bodyPost_ret (v := .tuple #[.agg #[.int .u64 0, .int .u64 0, .bool false, .int .i64 0], .int .i64 0, .int .i64 1]) (by simp [results, Try.results45, go_sem]) rfl ⟨rfl, ?_⟩
    repeat (first | exact Below.refl _ _ | apply below_alloc | apply below_drew1)
  rw [if_neg b4] at h
  have h' := Lib.hid h; clear h
  have b4' : decide ((32 : Int) < n) = false := decide_eq_false b4
  go_wp2_with fail
  refine (H2.out _).mono ?_
  rintro e w2 ⟨rfl, ⟨⟨m1, rfl⟩⟩⟩
  obtain ⟨k, hk⟩ : ∃ k : Nat, (k : Int) = (n + 7) / 8 := ⟨((n + 7) / 8).toNat, by have := HN.out; omega⟩
  rw [← hk]
  have hk16 : k ≤ 4 := by have := HN.out; omega
  have Hk := Lib.hid hk; clear hk
  have cw : IntKind.i64.wrap (2 + (k : Int)) = 2 + (k : Int) := IntWalk.i64_in _ (by omega)
  have h := h'.out; clear h'
  rw [← Hk.out] at h
  by_cases b5 : (l0.length : Int) < 2 + (k : Int)
  · rw [if_pos b5] at h
    have h5 := Option.some.inj h
    simp only [Prod.mk.injEq] at h5
    obtain ⟨rfl, rfl, rfl, rfl, rfl, rfl⟩ := h5
    clear h
    have b5' : decide ((l0.length : Int) < 2 + (k : Int)) = true := decide_eq_true b5
    go_wp2_with fail
    refine bodyPost_ret (v := .tuple #[.agg #[.int .u64 0, .int .u64 0, .bool false, .int .i64 0], .int .i64 0, .int .i64 6]) (by simp [results, Try.results45, go_sem]) rfl ⟨rfl, ?_⟩
    repeat (first | exact Below.refl _ _ | apply below_alloc | apply pw_below_drewN | apply below_drew1 | refine below_set ?_ (Nat.le_refl _))
  rw [if_neg b5] at h
  have h' := Lib.hid h; clear h
  have b5' : decide ((l0.length : Int) < 2 + (k : Int)) = false := decide_eq_false b5
  have hmk : ∀ W : World, (Instr.makeSlice 22 (.int .i64 4) (.int .i64 4)).run Try.prog W = .ok (.slice (some ⟨W.heap.size, 0, none⟩) 4 4) (W.alloc (.cells #[.int .u8 0, .int .u8 0, .int .u8 0, .int .u8 0] 5)) := fun _ => by kernel_rfl
  go_upto_region 12 with (fail)
  generalize hW : World.alloc (World.drewN (World.alloc w _) _) _ = W
  have hWz : W.heap[w.heap.size + 1]? = some (.cells (List.replicate 4 (Value.int .u8 0)).toArray 5 (0, 0)) := by
    rw [← hW]
    exact blk_new' _ _ _ (size1 _ _ _)
  have hWa : W.heap[w.heap.size]? = some (.cells #[.int .u64 0, .int .u64 0, .bool false, .int .i64 0] 39 (0, 0)) := by
    rw [← hW]
    exact blk_alloc (blk_drewN (blk_new w _) _) _
  have hWB : Below w.heap.size w W := by
    rw [← hW]
    repeat (first | exact Below.refl _ _ | apply below_alloc | apply pw_below_drewN | apply below_drew1)
  have hWs : W.heap.size = w.heap.size + 2 := by
    rw [← hW]
    exact size2 _ _ _ _
  clear hW
  obtain ⟨cs, hcs⟩ : ∃ cs : List Value, cs = ((l0.drop 2).take k).map (Value.int .u8) := ⟨_, rfl⟩
  have hcl : cs.length = k := by rw [hcs]; simp; omega
  have hc1 : ∀ v ∈ cs, v.oneCell' = true := by
    intro v hv
    rw [hcs] at hv
    obtain ⟨x, _, rfl⟩ := List.mem_map.mp hv
    rfl
  have hcel : ∀ j v, cs[j]? = some v → w.cell? (⟨ad.block, ad.off + 2 + j, none⟩ : Addr) = some v := by
    intro j v hv
    have hj : j < k := by rw [← hcl]; exact (List.getElem?_eq_some_iff.mp hv).1
    obtain ⟨ad2, e2, hx⟩ := Kd.at_int HC.out ((2 + j : Nat) : Int) (by omega) (by omega)
    obtain rfl : ad = ad2 := by injection e2
    rw [Int.toNat_natCast] at hx
    have e3 : ad.add (2 + j) = ⟨ad.block, ad.off + 2 + j, none⟩ := by
      simp [Go.Addr.add]
      omega
    rw [e3] at hx
    rw [hx]
    rw [hcs] at hv
    simp only [List.getElem?_map, List.getElem?_take, List.getElem?_drop] at hv
    rw [if_pos hj] at hv
    rw [List.getElem?_eq_getElem (by omega)] at hv
    simp only [Option.map_some, Option.some.injEq] at hv
    rw [← hv]
    unfold rd
    rw [Int.toNat_natCast, List.getD_eq_getElem?_getD, List.getElem?_eq_getElem (by omega)]
    rfl
  go_cut [] (fun wx => wx.heap[w.heap.size + 1]? = some (.cells (splice (List.replicate 4 (Value.int .u8 0)) 0 cs).toArray 5 (0, 0)) ∧ wx.heap[w.heap.size]? = some (.cells #[.int .u64 0, .int .u64 0, .bool false, .int .i64 0] 39 (0, 0)) ∧ Below w.heap.size w wx)
  case first =>
    have HCS := Lib.hid hcs; clear hcs
    have HCL := Lib.hid hcl; clear hcl
    have HCE := Lib.hid hcel; clear hcel
    have HWz := Lib.hid hWz; clear hWz
    have HWa := Lib.hid hWa; clear hWa
    have HWB := Lib.hid hWB; clear hWB
    have HWs := Lib.hid hWs; clear hWs
    by_cases hc2 : c0 = 2
    · subst hc2
      have hk0 : k = 0 := by omega
      subst hk0
      go_wp2_with ((with_reducible refine gate_dst (N := 55) rfl ?_); go_loud (refine wpList_copy_splice rfl (.tmp 51) (.tmp 54) 22 22 rfl 5 Try.underlying22 (by kernel_rfl) _ _ _ _ _ _ rfl rfl (w.heap.size + 1) 0 (List.replicate 4 (Value.int .u8 0)) 5 HWz.out cs ?g2 ?g3 ?g4 hc1 (w.heap.size + 1) W (Below.refl _ _) (Nat.le_refl _) ?_); (case g2 => go_loud (rw [HCL.out]; first | exact (Nat.min_eq_left hk16).symm | (rw [Nat.add_sub_cancel_left]; exact (Nat.min_eq_left hk16).symm))); (case g3 => go_loud (exact (fun h0 => absurd h0 (by rw [HCL.out]; omega)))); (case g4 => go_loud (simp only [List.length_replicate]; rw [HCL.out]; omega)); intro w3 hg3 hb3)
      go_meet
      exact ⟨hg3, (hb3.block _ (Nat.lt_succ_self _)).trans HWa.out, HWB.out.trans (hb3.mono (Nat.le_succ _))⟩
    · have hc3 : 2 + k ≤ c0 := by omega
      have hc4 : 2 + (k : Int) ≤ (c0 : Int) := by omega
      have hc5 : 2 + k - 2 = k := by omega
      go_wp2_with ((with_reducible refine gate_dst (N := 55) rfl ?_); go_loud (refine wpList_copy_splice rfl (.tmp 51) (.tmp 54) 22 22 rfl 5 Try.underlying22 (by kernel_rfl) _ _ _ _ _ _ rfl rfl (w.heap.size + 1) 0 (List.replicate 4 (Value.int .u8 0)) 5 HWz.out cs ?g2 ?g3 ?g4 hc1 (w.heap.size + 1) W (Below.refl _ _) (Nat.le_refl _) ?_); (case g2 => go_loud (rw [HCL.out]; first | exact (Nat.min_eq_left hk16).symm | (rw [Nat.add_sub_cancel_left]; exact (Nat.min_eq_left hk16).symm))); (case g3 => go_loud (exact (fun h0 => ⟨rfl, ⟨ad.block, ad.off + 2, none⟩, rfl, fun j v hv => by rw [show (⟨ad.block, ad.off + 2, none⟩ : Addr).add j = ⟨ad.block, ad.off + 2 + j, none⟩ from by simp [Go.Addr.add]]; exact cell_below HWB.out (HCE.out j v hv)⟩))); (case g4 => go_loud (simp only [List.length_replicate]; rw [HCL.out]; omega)); intro w3 hg3 hb3)
      go_meet
      exact ⟨hg3, (hb3.block _ (Nat.lt_succ_self _)).trans HWa.out, HWB.out.trans (hb3.mono (Nat.le_succ _))⟩
  case rest =>
  obtain ⟨hz, ha, hB⟩ := hcut
  clear hcel hWz hWa hWB hWs
  have h := h'.out; clear h'
  obtain ⟨⟨a1, a2, a3, a4⟩, hF, h⟩ := Option.bind_eq_some_iff.mp h
  obtain ⟨sn, hS, h⟩ := Option.bind_eq_some_iff.mp h
  simp only [] at hS h
  rw [show ((k : Int)).toNat = k from rfl] at hF
  obtain ⟨X, hX⟩ : ∃ X, X = splice (List.replicate 4 (0 : Int)) 0 ((l0.drop 2).take k) := ⟨_, rfl⟩
  have hF : addr_From.f X = some (a1, a2, a3, a4) := by rw [hX]; exact hF
  have hXl : X.length = 4 := by
    rw [hX, length_splice _ _ _ (by simp; omega)]
    simp
  have hXm : splice (List.replicate 4 (Value.int .u8 0)) 0 cs = X.map (Value.int .u8) := by
    rw [hX, hcs]
    simp [splice]
  rw [hXm] at hz
  have HFrom : Hid (Calls Try.prog 100 #[.slice (some ⟨w.heap.size + 1, 0, none⟩) 4 4] wc fun e w' => e = .returned (.tuple #[.agg #[.int .u64 a1, .int .u64 a2, .bool a3], .int .i64 a4]) ∧ Below wc.heap.size wc w') := by
    have hR : Kd.R (Kd.int .u8) 5 wc 0 (fun _ => True) (.slice (some ⟨w.heap.size + 1, 0, none⟩) X.length X.length) X := R_block X hz (Nat.zero_le _) (by simp) (by rw [hXl]; unfold maxLen; omega) trivial
    have := addr_From.calls (some ⟨w.heap.size + 1, 0, none⟩) X.length X a1 a2 a3 a4 wc (Kd.R_reads' hR).2.2 (Nat.le_refl _) hF
    rw [hXl] at this
    exact this
  have HS : Hid (∀ W : World, Calls Try.prog 47 #[.agg #[.int .u64 a1, .int .u64 a2, .bool a3, .int .i64 n]] W fun e w' => e = .returned (.bool sn) ∧ Below W.heap.size W w') := fun W => prefix_Sane.calls a1 a2 a3 n sn W hS
  have HB := Lib.hid hB; clear hB
  have HA := Lib.hid ha; clear ha
  have h' := Lib.hid h; clear h
  clear hF hS hz hXm hXl hX hcl hcs
  go_wp2_with fail
  refine HFrom.out.mono ?_
  rintro e w3 ⟨rfl, hb3⟩
  have ha3 := blk_below HA.out hb3
  have hB3 := below_step HB.out hb3
  have HA3 := Lib.hid ha3; clear ha3
  have HB3 := Lib.hid hB3; clear hB3
  clear HA HB HFrom hb3
  go_wp2_with fail
  refine (HS.out _).mono ?_
  rintro e w5 ⟨rfl, hb5⟩
  have ha5 := blk_below (blk_alloc (blk_alloc HA3.out _) _) hb5
  have hB5 := below_step (below_alloc (below_alloc HB3.out _) _) hb5
  have hp5 : w5.heap[w3.heap.size + 1]? = some (.cells #[.int .u64 a1, .int .u64 a2, .bool a3, .int .i64 n] 39 (0, 0)) := blk_below (blk_new' _ _ _ (by show _ = (Array.push _ _).size; simp)) hb5
  clear hb5
  have h := h'.out; clear h'
  cases sn with
  | true =>
    rw [if_pos rfl] at h
    have h5 := Option.some.inj h
    simp only [Prod.mk.injEq] at h5
    obtain ⟨rfl, rfl, rfl, rfl, rfl, rfl⟩ := h5
    clear h
    have hd0 : w5.cell? ⟨w.heap.size, 0, none⟩ = some (.int .u64 0) := (blk_cell ha5 0).trans rfl
    have hd1 : w5.cell? ⟨w.heap.size, 1, none⟩ = some (.int .u64 0) := (blk_cell ha5 1).trans rfl
    have hd2 : w5.cell? ⟨w.heap.size, 2, none⟩ = some (.bool false) := (blk_cell ha5 2).trans rfl
    have hd3 : w5.cell? ⟨w.heap.size, 3, none⟩ = some (.int .i64 0) := (blk_cell ha5 3).trans rfl
    have hf0 := blk_frozen ha5 0
    have hf1 := blk_frozen ha5 1
    have hf2 := blk_frozen ha5 2
    have hf3 := blk_frozen ha5 3
    have hq0 : w5.cell? ⟨w3.heap.size + 1, 0, none⟩ = some (.int .u64 a1) := (blk_cell hp5 0).trans rfl
    have hq1 : w5.cell? ⟨w3.heap.size + 1, 1, none⟩ = some (.int .u64 a2) := (blk_cell hp5 1).trans rfl
    have hq2 : w5.cell? ⟨w3.heap.size + 1, 2, none⟩ = some (.bool a3) := (blk_cell hp5 2).trans rfl
    have hq3 : w5.cell? ⟨w3.heap.size + 1, 3, none⟩ = some (.int .i64 n) := (blk_cell hp5 3).trans rfl
    have HA5 := Lib.hid ha5
    have HB5 := Lib.hid hB5
    clear ha5 hB5 hp5 HA3 HB3
    go_wp2_with fail
    refine bodyPost_ret (v := .tuple #[.agg #[.int .u64 a1, .int .u64 a2, .bool a3, .int .i64 n], .int .i64 (2 + (k : Int)), .int .i64 0]) (by simp [results, Try.results45, go_sem, *]) rfl ⟨rfl, ?_⟩
    repeat (first | exact HB5.out | refine below_set ?_ (Nat.le_refl _))
  | false =>
    rw [if_neg (by simp)] at h
    have h5 := Option.some.inj h
    simp only [Prod.mk.injEq] at h5
    obtain ⟨rfl, rfl, rfl, rfl, rfl, rfl⟩ := h5
    clear h
    have hd0 : w5.cell? ⟨w.heap.size, 0, none⟩ = some (.int .u64 0) := (blk_cell ha5 0).trans rfl
    have hd1 : w5.cell? ⟨w.heap.size, 1, none⟩ = some (.int .u64 0) := (blk_cell ha5 1).trans rfl
    have hd2 : w5.cell? ⟨w.heap.size, 2, none⟩ = some (.bool false) := (blk_cell ha5 2).trans rfl
    have hd3 : w5.cell? ⟨w.heap.size, 3, none⟩ = some (.int .i64 0) := (blk_cell ha5 3).trans rfl
    have hf0 := blk_frozen ha5 0
    have hf1 := blk_frozen ha5 1
    have hf2 := blk_frozen ha5 2
    have hf3 := blk_frozen ha5 3
    have hq0 : w5.cell? ⟨w3.heap.size + 1, 0, none⟩ = some (.int .u64 a1) := (blk_cell hp5 0).trans rfl
    have hq1 : w5.cell? ⟨w3.heap.size + 1, 1, none⟩ = some (.int .u64 a2) := (blk_cell hp5 1).trans rfl
    have hq2 : w5.cell? ⟨w3.heap.size + 1, 2, none⟩ = some (.bool a3) := (blk_cell hp5 2).trans rfl
    have hq3 : w5.cell? ⟨w3.heap.size + 1, 3, none⟩ = some (.int .i64 n) := (blk_cell hp5 3).trans rfl
    have HA5 := Lib.hid ha5
    have HB5 := Lib.hid hB5
    clear ha5 hB5 hp5 HA3 HB3
    go_wp2_with fail
    refine bodyPost_ret (v := .tuple #[.agg #[.int .u64 0, .int .u64 0, .bool false, .int .i64 0], .int .i64 0, .int .i64 1]) (by simp [results, Try.results45, go_sem, *]) rfl ⟨rfl, ?_⟩
    repeat (first | exact HB5.out | refine below_set ?_ (Nat.le_refl _))

set_option maxRecDepth 100000 in
theorem get_short (A0 : Option Addr) (c0 n : Nat) (w : World) (h2 : n < 2) :
    Calls Try.prog 45 #[.slice A0 n c0] w fun e w' => e = .returned (.tuple #[.agg #[.int .u64 0, .int .u64 0, .bool false, .int .i64 0], .int .i64 0, .int .i64 6]) ∧ Below w.heap.size w w' := by
  have b1 : decide ((n : Int) < 2) = true := decide_eq_true (by omega)
  go_enter Try.func45, Try.ntmps45
  go_wp2_with fail
  refine bodyPost_ret (v := .tuple #[.agg #[.int .u64 0, .int .u64 0, .bool false, .int .i64 0], .int .i64 0, .int .i64 6]) (by simp [results, Try.results45, go_sem]) rfl ⟨rfl, ?_⟩
  repeat (first | exact Below.refl _ _ | apply below_alloc)
set_option maxRecDepth 100000 in
theorem get_form (A0 : Option Addr) (c0 : Nat) (l0 : List Int) (w : World) (hr0 : Kd.C (Kd.int .u8) w A0 l0.length l0) (h2 : 2 ≤ l0.length) (h4 : rd l0 0 ≠ 4) (h6 : rd l0 0 ≠ 6) :
    Calls Try.prog 45 #[.slice A0 l0.length c0] w fun e w' => e = .returned (.tuple #[.agg #[.int .u64 0, .int .u64 0, .bool false, .int .i64 0], .int .i64 0, .int .i64 5]) ∧ Below w.heap.size w w' := by
  obtain ⟨ad, rfl, hx0⟩ := Kd.at_int hr0 0 (by omega) (by omega)
  simp only [Int.toNat_zero, Int.reduceToNat] at hx0
  rw [Addr.add_zero'] at hx0
  obtain ⟨x, hx⟩ : ∃ x, x = rd l0 0 := ⟨_, rfl⟩
  rw [← hx] at hx0 h4 h6
  have y0 : ∀ o1, (w.alloc o1).cell? ad = some (.int .u8 x) := fun o1 => Lib.cell?_alloc_some o1 hx0
  have b1 : decide ((l0.length : Int) < 2) = false := decide_eq_false (by omega)
  have b3 : 0 < l0.length := by omega
  have q4 : (x == 4) = false := beq_eq_false_iff_ne.mpr h4
  have q6 : (x == 6) = false := beq_eq_false_iff_ne.mpr h6
  have p4 : (x != 4) = true := bne_iff_ne.mpr h4
  have p6 : (x != 6) = true := bne_iff_ne.mpr h6
  clear hr0 hx h4 h6
  go_enter Try.func45, Try.ntmps45
  go_wp2_with fail
  refine bodyPost_ret (v := .tuple #[.agg #[.int .u64 0, .int .u64 0, .bool false, .int .i64 0], .int .i64 0, .int .i64 5]) (by simp [results, Try.results45, go_sem]) rfl ⟨rfl, ?_⟩
  repeat (first | exact Below.refl _ _ | apply below_alloc)
/-- The prefix that stands first. -/
def wire_Get.f (l : List Int) : Option (Int × Int × Bool × Int × Int × Int) :=
  if okby l then (if l.length < 2 then some (0, 0, false, 0, 0, 6) else if rd l 0 = 6 then get_rest true l (rd l 1) else if rd l 0 = 4 then get_rest false l (rd l 1) else some (0, 0, false, 0, 0, 5)) else none
theorem wire_Get.calls (A0 : Option Addr) (c0 : Nat) (l0 : List Int) (r1 r2 : Int) (r3 : Bool) (r4 r5 r6 : Int) (w : World) (hr0 : Kd.C (Kd.int .u8) w A0 l0.length l0) (hc0 : l0.length ≤ c0) (h : wire_Get.f l0 = some (r1, r2, r3, r4, r5, r6)) :
    Calls Try.prog 45 #[.slice A0 l0.length c0] w fun e w' => e = .returned (.tuple #[.agg #[.int .u64 r1, .int .u64 r2, .bool r3, .int .i64 r4], .int .i64 r5, .int .i64 r6]) ∧ Below w.heap.size w w' := by
  unfold wire_Get.f at h
  split at h
  · rename_i hk
    split at h
    · rename_i h2
      have h5 := Option.some.inj h
      simp only [Prod.mk.injEq] at h5
      obtain ⟨rfl, rfl, rfl, rfl, rfl, rfl⟩ := h5
      exact get_short A0 c0 _ w h2
    · rename_i h2
      have hn : 0 ≤ rd l0 1 ∧ rd l0 1 ≤ 255 := by
        refine hk _ ?_
        unfold rd
        rw [List.getD_eq_getElem?_getD, List.getElem?_eq_getElem (by show 1 < _; omega)]
        exact List.getElem_mem _
      split at h
      · rename_i h6
        exact get_true A0 c0 l0 _ w hr0 hc0 (by omega) h6 hn rfl _ _ _ _ _ _ h
      · rename_i h6
        split at h
        · rename_i h4
          exact get_false A0 c0 l0 _ w hr0 hc0 (by omega) h4 hn rfl _ _ _ _ _ _ h
        · rename_i h4
          have h5 := Option.some.inj h
          simp only [Prod.mk.injEq] at h5
          obtain ⟨rfl, rfl, rfl, rfl, rfl, rfl⟩ := h5
          exact get_form A0 c0 l0 w hr0 (by omega) h4 h6
  · exact absurd h (by simp)

/-! ### HAND addr_Bytes: function 68 -/

/-! ### slices_Clone_byte_byte: function 102 -/
def slices_Clone_byte_byte.f (l0 : List Int) : Option (List Int) := (some (([] : List Int) : List Int)).bind fun y112 => (if y112.length + l0.length < 140737488355328 then (some (y112 ++ l0)) else (none))
set_option maxHeartbeats 8000000 in
set_option maxRecDepth 100000 in
theorem slices_Clone_byte_byte.calls (A0 : Option Addr) (c0 : Nat) (l0 : List Int) (r : List Int) (w : World) (hr0 : Kd.C (Kd.int .u8) w A0 l0.length l0) (hc0 : l0.length ≤ c0) (h : slices_Clone_byte_byte.f l0 = some r) :
    Calls Try.prog 102 #[.slice A0 l0.length c0] w fun e w' => ∃ v0_ : Value, e = .returned (v0_) ∧ Kd.R (Kd.int .u8) 5 w' w.heap.size (fun _ => True) v0_ r ∧ Below w.heap.size w w' := by
  have HR0 := Aside0.mk hr0
  have HC0 := Aside0.mk hc0
  clear hr0 hc0
  have HB := Aside0.mk (Below.refl w.heap.size w)
  have H : ((some (([] : List Int) : List Int)).bind fun y112 => (if y112.length + l0.length < 140737488355328 then (some (y112 ++ l0)) else (none))) = some r := h
  clear h
  obtain ⟨y112, hy112⟩ : ∃ y_ : List Int, y_ = (([] : List Int)) := ⟨_, rfl⟩
  replace H : (if y112.length + l0.length < 140737488355328 then (some (y112 ++ l0)) else (none)) = some r := by first | (rw [hy112]; with_reducible exact H) | (have H2_ := (Option.bind_some _ _).symm.trans H; rw [hy112]; with_reducible exact H2_) | (have H2_ := (Option.bind_some _ _).symm.trans H; with_reducible exact H2_) | with_reducible exact H | (rw [hy112]; exact H) | exact H
  have Ny112 := Aside0.mk hy112
  clear hy112
  by_cases c2 : y112.length + l0.length < 140737488355328
  · rw [if_pos c2] at H
    have LMc2 := Aside0.mk c2
    clear c2
    obtain ⟨y115, hy115⟩ : ∃ y_ : List Int, y_ = (y112 ++ l0) := ⟨_, rfl⟩
    replace H : (some y115) = some r := by first | (rw [hy115]; with_reducible exact H) | (have H2_ := (Option.bind_some _ _).symm.trans H; rw [hy115]; with_reducible exact H2_) | (have H2_ := (Option.bind_some _ _).symm.trans H; with_reducible exact H2_) | with_reducible exact H | (rw [hy115]; exact H) | exact H
    have Ny115 := Aside0.mk hy115
    clear hy115
    obtain rfl := Option.some.inj H
    have hq_ := fun (W_ : World) => Lib.run_eql_slice_nil (P := Try.prog) W_ 22 5 A0 l0.length c0 0 0 Try.underlying22
    rcases A0 with _ | ad0_
    · obtain rfl : l0 = [] := C_none_ HR0.out
      obtain rfl : y115 = [] := by rw [Ny115.out, Ny112.out]; rfl
      simp only [List.length_nil, Option.isNone_none] at hq_ ⊢
      clear HR0 HC0 H LMc2 Ny115 Ny112
      go_enter Try.func102, Try.ntmps102
      go_wp2
      go_ret
      exact ⟨_, rfl, Kd.R_nil _ _ _ _ _, HB.out⟩
    simp only [Option.isNone_some] at hq_
    go_enter Try.func102, Try.ntmps102
    go_wp2_with (first | ((with_reducible refine gate_dst (N := 5) rfl ?_); refine Kd.R_lit (Kd.int .u8) _ 5 ?hg (N := 5) ?hd (xs := ([] : List Int)) (inner := []) (ok := fun _ => True) (okp := fun _ => True) ?hr ?hp (fun _ hk => hk) trivial (Below.refl _ _) (Nat.le_refl _) (by simp) ?_; (case hd => rfl); (case hg => rfl); (case hr => first | (go_simp; done) | (go_simp; rfl)); (case hp => exact (Reps.none _ _)); intro v113 w3 ho4 hb hg_ hnew_; clear hg_ hnew_; (first | rw [← Ny112.out] at ho4 | (simp only [Int.reduceToNat] at ho4; rw [← Ny112.out] at ho4)); have n0_ := Aside0.mk (Kd.R_lower ho4 (below_size (by repeat (first | (with_reducible first | exact HB.out | apply below_alloc | apply pw_below_drewN | apply below_drew1) | exact HB.out)))); have n1_ := Aside0.mk (below_step (by repeat (first | (with_reducible first | exact HB.out | apply below_alloc | apply pw_below_drewN | apply below_drew1) | exact HB.out)) hb); clear HB; have HO114 := n0_; have HB := n1_; clear n0_ n1_; clear hb ho4) | ((with_reducible refine gate_builtin (b := .append) (xs := #[.tmp 5, .tmp 6]) rfl ?_); at_builtin; refine Kd.R_append_rows (Kd.int .u8) (w0 := w) w.heap.size rfl (.tmp 5) (.tmp 6) 22 5 (.int .u8 0) 1 rfl Try.underlying22 info5 rfl (by decide) (by omega) v113 y112 l0 _ _ _ (fun _ => True) (fun _ => False) rfl rfl ?aO ?aR (fun _ _ h => h) (fun _ h => h.elim) ?aF ?aB ?aS ?aL ?_; (case aR => repeat (first | exact (Kd.C_below HR0.out HB.out) | (with_reducible refine Kd.C_alloc ?_ _) | (with_reducible refine Kd.C_drewN ?_ _) | (with_reducible refine Kd.C_drew ?_))); (case aB => exact (by repeat (first | (with_reducible first | exact HB.out | apply below_alloc | apply pw_below_drewN | apply below_drew1) | exact HB.out))); (case aF => exact (fun _ _ => trivial)); (case aO => exact (by (with_reducible repeat (first | apply Kd.R_alloc | apply Kd.R_drewN | apply Kd.R_drew)); exact HO114.out)); (case aS => exact (below_size (by repeat (first | (with_reducible first | exact HB.out | apply below_alloc | apply pw_below_drewN | apply below_drew1) | exact HB.out)))); (case aL => have := LMc2.out; omega); intro v116 w5 ho hb hg hat; rw [← Ny115.out] at ho; have n0_ := Aside0.mk (hb); have n1_ := Aside0.mk (ho); clear HB; clear HO114; have HB := n0_; have HO117 := n1_; clear n0_ n1_; clear ho hb hg hat))
    go_ret
    exact ⟨_, by first | rfl | (simp [errW_none, errW_some] <;> rfl) | (simp [*, errW_none, errW_some] <;> rfl), by (with_reducible repeat (first | apply Kd.R_alloc | apply Kd.R_drewN | apply Kd.R_drew)); exact HO117.out, by repeat (first | (with_reducible first | exact HB.out | apply below_alloc | apply pw_below_drewN | apply below_drew1) | exact HB.out)⟩
  · rw [if_neg c2] at H
    exact absurd H (by simp)

end Go.Proofs.Ytcilcmbailoeaaa.KW
