import Derived.Test.YthnhbnakpmkppaaGreatMgTableGoes25
section
set_option linter.all false
set_option maxRecDepth 10000
namespace Sp
open Go Go.Proofs Sx Go.Proofs.YthnhbnakpmkppaaGreat.Ma
theorem p_do13 : T_do13 := by
  unfold T_do13; try dsimp only [H_SpL13t_11, H_SpL13t_3, H_SpL13t_6, H_SpL13t_9]
  rintro ⟨m, w, x⟩ ⟨hw, hk⟩
  dsimp only at hw hk ⊢
  refine ifB_d (fun h => ?_) fun n0 => ifB_d (fun h => ?_) fun n1 => ifB_d (fun h => ?_) fun n2 => ifB_d (fun h => ?_) fun n3 => ifB_d (fun h => ?_) fun n4 => ?_
  · have e : m.act (w, x) = m.install x (decide (w = 1)) := by unfold Tb.act; rw [if_pos (.inl h)]
    rw [e]
    exact ⟨(m, x, decide (w = 1)), rfl, rfl, rfl, rfl, rfl, rfl, rfl, ⟨hw, hk⟩, fun _ _ => ⟨(), trivial, rfl, rfl, rfl, rfl, rfl, rfl, trivial⟩⟩
  · have e : m.act (w, x) = m.install x (decide (w = 1)) := by unfold Tb.act; rw [if_pos (.inr h)]
    rw [e]
    exact ⟨(m, x, decide (w = 1)), rfl, rfl, rfl, rfl, rfl, rfl, rfl, ⟨hw, hk⟩, fun _ _ => ⟨(), trivial, rfl, rfl, rfl, rfl, rfl, rfl, trivial⟩⟩
  · have e : m.act (w, x) = (m.hit (pA (rP x)), (m.find (pA (rP x))).isSome, [], [(m.find (pA (rP x))).getD zRt]) := by unfold Tb.act; rw [if_neg (fun k => k.elim n0 n1), if_pos h]
    rw [e]
    exact ⟨(m, pA (rP x)), rfl, rfl, rfl, rfl, hw, fun _ _ => ⟨(), trivial, rfl, rfl, rfl, rfl, rfl, rfl, trivial⟩⟩
  · have e : m.act (w, x) = (m.evict (rP x), (m.has (rP x)).isSome, [], []) := by unfold Tb.act; rw [if_neg (fun k => k.elim n0 n1), if_neg n2, if_pos h]
    rw [e]
    exact ⟨(m, rP x), rfl, rfl, rfl, rfl, rfl, ⟨hw, hk⟩, fun _ _ => ⟨(), trivial, rfl, rfl, rfl, rfl, rfl, rfl, trivial⟩⟩
  · have e : m.act (w, x) = (m.flush (rP x), false, [], m.lost (rP x)) := by unfold Tb.act; rw [if_neg (fun k => k.elim n0 n1), if_neg n2, if_neg n3, if_pos h]
    rw [e]
    exact ⟨(m, rP x), rfl, rfl, rfl, rfl, rfl, ⟨hw, hk⟩, fun _ _ => ⟨(), trivial, rfl, rfl, rfl, rfl, rfl, rfl, trivial⟩⟩
  · have e : m.act (w, x) = (m.tick, false, [], []) := by unfold Tb.act; rw [if_neg (fun k => k.elim n0 n1), if_neg n2, if_neg n3, if_neg n4]
    rw [e]
    exact ⟨m, rfl, trivial, fun _ _ => ⟨(), trivial, rfl, rfl, rfl, rfl, rfl, rfl, trivial⟩⟩
def rk13 (k : Int) : Rt := mkR (ofPf (fromE [10 + k, 0, 0, 0]).1 8) k
def t13 (n : Nat) : Tb := (List.range n).foldl (fun m (k : Nat) => (m.install (rk13 k) false).1) (Tb.new 2 0)
theorem okB_of {l : List Int} (h : l.all (fun x => decide (0 ≤ x) && decide (x ≤ 255)) = true) : ∀ x, List.Mem x l → 0 ≤ x ∧ x ≤ 255 := by
  intro x hx
  have := (List.all_eq_true.1 h) x hx
  simpa using this
theorem p_wake13 : T_wake13 := by
  unfold T_wake13; try dsimp only [H_SpL13t_6]
  intro _ _
  refine ⟨(2, 0), rfl, rfl, trivial, fun _ _ => ⟨by decide, [10, 0, 0, 0], rfl, rfl, okB_of rfl, fun _ _ => ⟨((fromE [10, 0, 0, 0]).1, 8), rfl, rfl, rfl, rfl, by decide +kernel, fun _ _ => ⟨(t13 0, rk13 0, false), rfl, rfl, rfl, rfl, rfl, rfl, rfl, ⟨by decide +kernel, by show (_ : Nat) ≤ 6000; decide +kernel⟩, fun _ _ => ⟨by decide, by decide, [11, 0, 0, 0], rfl, rfl, okB_of rfl, fun _ _ => ⟨((fromE [11, 0, 0, 0]).1, 8), rfl, rfl, rfl, rfl, by decide +kernel, fun _ _ => ⟨(t13 1, rk13 1, false), rfl, rfl, rfl, rfl, rfl, rfl, rfl, ⟨by decide +kernel, by show (_ : Nat) ≤ 6000; decide +kernel⟩, fun _ _ =>
    ⟨by decide, by decide, [12, 0, 0, 0], rfl, rfl, okB_of rfl, fun _ _ => ⟨((fromE [12, 0, 0, 0]).1, 8), rfl, rfl, rfl, rfl, by decide +kernel, fun _ _ => ⟨(t13 2, rk13 2, false), rfl, rfl, rfl, rfl, rfl, rfl, rfl, ⟨by decide +kernel, by show (_ : Nat) ≤ 6000; decide +kernel⟩, fun _ _ => ⟨by decide, t13 3, rfl, trivial, fun _ _ => ?_⟩⟩⟩⟩⟩⟩⟩⟩⟩⟩⟩
  refine ifB_tb (by decide +kernel) (ifB_tb (by decide +kernel) ⟨by decide +kernel, ifB_tb (by decide +kernel) (ifB_tb (by decide +kernel) (ifB_tb (by decide +kernel) ⟨t13 3, rfl, trivial, fun _ _ => ⟨(), trivial, by decide +kernel, trivial⟩⟩))⟩)
theorem eq_rt {a b : Rt} : (decide (a.1 = b.1) && (decide (a.2.1 = b.2.1) && (decide (a.2.2.1 = b.2.2.1) && (decide (a.2.2.2.1 = b.2.2.2.1) && decide (a.2.2.2.2 = b.2.2.2.2))))) = decide (a = b) := by
  obtain ⟨a1, a2, a3, a4, a5⟩ := a
  obtain ⟨b1, b2, b3, b4, b5⟩ := b
  rw [Bool.eq_iff_iff]
  simp only [Bool.and_eq_true, decide_eq_true_eq, Prod.mk.injEq]
theorem p_has13 : T_has13 := by
  rintro ⟨l, x⟩ hl
  dsimp only at hl ⊢
  refine ⟨fun i => 0 ≤ i ∧ i ≤ l.length ∧ x ∉ l.take i.toNat, fun i => (l.length - i).toNat, ⟨0, ⟨by simp, by simp, by simp⟩, rfl, trivial⟩, ?_⟩
  rintro i ⟨i0, i1, i2⟩
  refine ifB_d (fun hlt => ⟨by omega, ?_⟩) fun hge => ⟨(), trivial, ?_, trivial⟩
  · have hlt' : i.toNat < l.length := by omega
    have hsn := take_snoc ((0, 0, false, 0, 0) : Rt) hlt'
    have hm : l.getD i.toNat (0, 0, false, 0, 0) ∈ l := by rw [List.getD_eq_getElem?_getD, List.getElem?_eq_getElem hlt']; exact List.getElem_mem _
    rw [eq_rt]
    refine ifB_d (fun he => ⟨(), trivial, (decide_eq_true (he ▸ hm)).symm, trivial⟩) fun hne => ⟨by omega, i + 1, ⟨by omega, by omega, ?_⟩, by dsimp only; omega, rfl, trivial⟩
    rw [show (i + 1).toNat = i.toNat + 1 by omega, hsn, List.mem_append, List.mem_singleton]
    exact fun k => k.elim i2 fun k => hne k.symm
  · have e : l.take i.toNat = l := List.take_of_length_le (by omega)
    rw [e] at i2
    exact (decide_eq_false i2).symm
theorem eq_pf {a b : Pf} : (decide (a.1 = b.1) && (decide (a.2.1 = b.2.1) && (decide (a.2.2.1 = b.2.2.1) && decide (a.2.2.2 = b.2.2.2)))) = decide (a = b) := by
  obtain ⟨a1, a2, a3, a4⟩ := a
  obtain ⟨b1, b2, b3, b4⟩ := b
  rw [Bool.eq_iff_iff]
  simp only [Bool.and_eq_true, decide_eq_true_eq, Prod.mk.injEq]
theorem p_prefs13 : T_prefs13 := by
  rintro ⟨l, r⟩ ⟨hl, hr⟩
  dsimp only at hl hr ⊢
  refine ifB_nd (fun h => ⟨(), trivial, (decide_eq_false fun e => h (by rw [e])).symm, trivial⟩) fun h => ?_
  refine ⟨fun i => 0 ≤ i ∧ i ≤ l.length ∧ l.take i.toNat = r.take i.toNat, fun i => (l.length - i).toNat, ⟨0, ⟨by simp, by simp, by simp⟩, rfl, trivial⟩, ?_⟩
  rintro i ⟨i0, i1, i2⟩
  refine ifB_d (fun hlt => ⟨by omega, by omega, ?_⟩) fun hge => ⟨(), trivial, ?_, trivial⟩
  · have h1 := take_snoc ((0, 0, false, 0) : Pf) (l := l) (i := i.toNat) (by omega)
    have h2 := take_snoc ((0, 0, false, 0) : Pf) (l := r) (i := i.toNat) (by omega)
    rw [eq_pf]
    refine ifB_nd (fun hne => ⟨(), trivial, (decide_eq_false fun e => hne (by rw [e])).symm, trivial⟩) fun he => ⟨by omega, i + 1, ⟨by omega, by omega, ?_⟩, by dsimp only; omega, rfl, trivial⟩
    rw [show (i + 1).toNat = i.toNat + 1 by omega, h1, h2, i2, he]
  · have e1 : l.take i.toNat = l := List.take_of_length_le (by omega)
    have e2 : r.take i.toNat = r := List.take_of_length_le (by omega)
    rw [e1, e2] at i2
    exact (decide_eq_true i2).symm
theorem g_from13 : Good Tryz.prog 76 FromS := g_from
theorem GTL0 : Goods Tryz.prog TL0 := goods_cons g_apart (goods_cons g_from GTB)
theorem g_same13 : Good Tryz.prog 31 SameS := GR3 _ _ rfl
theorem GTL1 : Goods Tryz.prog TL1 := goods_cons (good_of_owes hM hP GTL0 Tryz.func23 rfl (o_do13 ▸ p_do13)) <| goods_cons (good_of_owes hM hP GTL0 Tryz.func20 rfl (o_wake13 ▸ p_wake13)) <| goods_cons g_same13 <| goods_cons (good_of_owes hM hP GTL0 Tryz.func32 rfl (o_prefs13 ▸ p_prefs13)) <| goods_cons (good_of_owes hM hP GTL0 Tryz.func35 rfl (o_has13 ▸ p_has13)) <| GTL0
theorem acs_at {l : List Ac} (h : wfAcs l) {k : Nat} (hk : k < l.length) : wfR (l.getD k (0, 0, 0, false, 0, 0)).2 := by
  rw [List.getD_eq_getElem?_getD, List.getElem?_eq_getElem hk]
  exact h _ (List.getElem_mem _)
theorem acts_small {most pol : Int} {l : List Ac} (hl : l.length ≤ 60) (k : Nat) : okM ((Tb.new most pol).acts (l.take k)) ∧ ((Tb.new most pol).acts (l.take k)).small := by
  obtain ⟨h1, h2⟩ := (okM.new most pol).acts (l.take k)
  refine ⟨h1, ?_⟩
  have : (l.take k).length ≤ 60 := by rw [List.length_take]; omega
  show ((Tb.new most pol).acts (l.take k)).k + ((Tb.new most pol).acts (l.take k)).L.length ≤ 6000
  have e : (Tb.new most pol).k + (Tb.new most pol).L.length = 0 := rfl
  omega
theorem wf_rt13 {r : Rt} (h : ∀ l ∈ leafs rtK r, l.wf) : wfR r := by
  obtain ⟨hi, lo, v6, n, hop⟩ := r
  have h1 : (L.i .u64 hi).wf := h _ (by simp [leafs, Kd.leaf])
  have h2 : (L.i .u64 lo).wf := h _ (by simp [leafs, Kd.leaf])
  simp only [L.wf, Sx.lo, Sx.hi] at h1 h2
  exact ⟨⟨h1.1, by show hi < _; omega⟩, h2.1, by show lo < _; omega⟩
theorem wf_acs13 {l : List Ac} (h : wfT acK l) : wfAcs l := fun o ho => wf_rt13 fun x hx => h o ho x (List.mem_cons_of_mem _ hx)
theorem p_goes13 : T_goes13 := by
  unfold T_goes13; try dsimp only [H_SpL13t_11, H_SpL13t_10, H_SpL13t_4, H_SpL13t_1, H_SpL13t_8, H_SpL13t_2]
  rintro ⟨most, pol, l⟩ hw
  dsimp only at hw ⊢
  refine ⟨(), trivial, fun _ _ => ifB_d (fun h => ⟨(), trivial, rfl, trivial⟩) fun h => ⟨(bits .and .i64 most 15, pol), rfl, rfl, trivial, fun _ _ => ?_⟩⟩
  have hl : l.length ≤ 60 := by omega
  dsimp only
  generalize bits .and .i64 most 15 = mo
  refine ⟨fun x => ∃ k : Nat, k ≤ l.length ∧ x = ((k : Int), (Tb.new mo pol).acts (l.take k)), fun x => (l.length - x.1).toNat, ⟨(0, Tb.new mo pol), ⟨0, Nat.zero_le _, rfl⟩, rfl, rfl, trivial⟩, ?_⟩
  rintro _ ⟨k, hk, rfl⟩
  dsimp only
  refine ifB_d (fun hlt => ?_) fun _ => ⟨(), trivial, rfl, trivial⟩
  have hlt' : k < l.length := by omega
  obtain ⟨hok, hsm⟩ := acts_small (most := mo) (pol := pol) hl k
  have hwo := acs_at hw hlt'
  have hsn := take_snoc ((0, 0, 0, false, 0, 0) : Ac) hlt'
  rw [show ((k : Int)).toNat = k from rfl]
  generalize hm : (Tb.new mo pol).acts (l.take k) = m at *
  generalize ho : l.getD k (0, 0, 0, false, 0, 0) = o at *
  have hnext : (Tb.new mo pol).acts (l.take (k + 1)) = (m.act o).1 := by rw [hsn, acts_snoc, hm]
  have hs := hok.srt
  have hs' := (hok.act o).srt
  have hML : (m.L.length : Int) ≤ 1024 := by have := hok.len; have := hok.most; omega
  have hML' : ((m.act o).1.L.length : Int) ≤ 1024 := by have := (hok.act o).len; have := (hok.act o).most; omega
  have len1 : ∀ q : Tb, okM q → (srtR q.L).length ≤ q.L.length := fun q hq => hq.srt.2.2.length_le_of_subset fun x hx => (hq.srt.2.1 x).1 hx
  have hwas := len1 m hok
  have his := len1 _ (hok.act o)
  refine ⟨m, rfl, trivial, fun _ _ => ⟨by omega, (m, o), rfl, rfl, rfl, rfl, rfl, rfl, rfl, ⟨hwo, hsm⟩, fun _ _ => ⟨(m.act o).1, rfl, trivial, fun _ _ => ?_⟩⟩⟩
  refine ⟨fun x => 0 ≤ x.2 ∧ x.2 ≤ (srtR m.L).length ∧ x.1 = (((srtR m.L).take x.2.toNat).filter fun y => !decide (y ∈ srtR (m.act o).1.L)).length, fun x => ((srtR m.L).length - x.2).toNat, ⟨(0, 0), ⟨by simp, by simp, by simp⟩, rfl, rfl, trivial⟩, ?_⟩
  rintro ⟨g, j⟩ ⟨j0, j1, hg⟩
  dsimp only at j0 j1 hg ⊢
  have hgl : g ≤ 1024 := by
    have : ((((srtR m.L).take j.toNat).filter fun y => !decide (y ∈ srtR (m.act o).1.L)).length : Int) ≤ (srtR m.L).length := by
      have h1 := List.length_filter_le (fun y => !decide (y ∈ srtR (m.act o).1.L)) ((srtR m.L).take j.toNat)
      have h2 : ((srtR m.L).take j.toNat).length ≤ (srtR m.L).length := by rw [List.length_take]; omega
      omega
    omega
  have hg0 : 0 ≤ g := by omega
  refine ifB_d (fun hjl => ?_) fun hje => ?_
  · have hj' : j.toNat < (srtR m.L).length := by omega
    have hsj := take_snoc ((0, 0, false, 0, 0) : Rt) hj'
    have hym : (srtR m.L).getD j.toNat (0, 0, false, 0, 0) ∈ srtR m.L := by rw [List.getD_eq_getElem?_getD, List.getElem?_eq_getElem hj']; exact List.getElem_mem _
    generalize hy : (srtR m.L).getD j.toNat (0, 0, false, 0, 0) = y at *
    have hyL := (hs.2.1 y).1 hym
    have hsy := good_sane (hok.good y hyL)
    refine ⟨by omega, (srtR (m.act o).1.L, y), rfl, rfl, rfl, rfl, rfl, rfl, rfl, by dsimp only; omega, fun _ _ => ifB_d (fun hin => ?_) fun hni => ⟨by omega, by omega, ?_⟩⟩
    · refine ⟨by omega, (g, j + 1), ⟨by dsimp only; omega, by dsimp only; omega, ?_⟩, by dsimp only; omega, rfl, rfl, trivial⟩
      dsimp only
      rw [show (j + 1).toNat = j.toNat + 1 by omega, hsj, List.filter_append, hg]
      have e : [y].filter (fun y => !decide (y ∈ srtR (m.act o).1.L)) = [] := by rw [List.filter_cons, if_neg (by rw [decide_eq_true hin]; decide)]; rfl
      rw [e, List.append_nil]
    · have nx : (-9223372036854775808 ≤ j + 1 ∧ j + 1 ≤ 9223372036854775807) ∧ ∃ (z : Int × Int), (0 ≤ z.2 ∧ z.2 ≤ (srtR m.L).length ∧ z.1 = (((srtR m.L).take z.2.toNat).filter fun y => !decide (y ∈ srtR (m.act o).1.L)).length) ∧ ((srtR m.L).length - z.2).toNat < ((srtR m.L).length - j).toNat ∧ g + 1 = z.1 ∧ j + 1 = z.2 ∧ True := by
        refine ⟨by omega, (g + 1, j + 1), ⟨by dsimp only; omega, by dsimp only; omega, ?_⟩, by dsimp only; omega, rfl, rfl, trivial⟩
        dsimp only
        rw [show (j + 1).toNat = j.toNat + 1 by omega, hsj, List.filter_append, List.length_append, hg]
        have e : [y].filter (fun y => !decide (y ∈ srtR (m.act o).1.L)) = [y] := by rw [List.filter_cons, if_pos (by rw [decide_eq_false hni]; rfl)]; rfl
        rw [e]
        rfl
      have hnL : y ∉ (m.act o).1.L := fun k => hni ((hs'.2.1 y).2 k)
      have bd : 0 ≤ j ∧ j < ((srtR m.L).length : Int) := by omega
      have hby := gone_by hok o hyL hnL
      have labs : ∀ L : List Rt, L.Nodup → (∀ x ∈ L, x ∈ m.L) → L.length ≤ 1000000000 := fun L h1 h2 => by have := h1.length_le_of_subset h2; omega
      refine ifB_d (fun c0 => ?_) fun c0 => ifB_d (fun c3 => ?_) fun c3 => ifB_d (fun c4 => ?_) fun c4 => ?_
      · have e0 : m.act o = m.install o.2 (decide (o.1 = 1)) := by unfold Tb.act; rw [if_pos (.inl c0)]
        have ip := hok.instP o.2 (decide (o.1 = 1))
        rw [← e0] at ip
        have hnd := List.nodup_append.1 ip.nd
        have hor : y ∈ (m.act o).2.2.1 ∨ y ∈ (m.act o).2.2.2 := by
          rcases hby with ⟨_, h⟩ | ⟨h, _⟩ | ⟨h, _⟩
          · exact h
          · omega
          · omega
        refine ⟨bd, ((m.act o).2.2.1, y), rfl, rfl, rfl, rfl, rfl, rfl, rfl, labs _ hnd.1 fun x hx => ip.sub x (List.mem_append_left _ hx), fun _ _ => ifB_d (fun _ => nx) fun n1 => ⟨bd, ((m.act o).2.2.2, y), rfl, rfl, rfl, rfl, rfl, rfl, rfl, labs _ hnd.2.1 fun x hx => ip.sub x (List.mem_append_right _ hx), fun _ _ => ifB_d (fun _ => nx) fun n2 => (hor.elim n1 n2).elim⟩⟩
      · have he : rP y = rP o.2 := by
          rcases hby with ⟨h, _⟩ | ⟨_, h⟩ | ⟨h, _⟩
          · omega
          · exact h
          · omega
        refine ⟨bd, ifB_b (fun _ => nx) fun hf => ?_⟩
        have := eq_pf (a := rP y) (b := rP o.2)
        rw [decide_eq_true he] at this
        have this : (decide (y.1 = o.2.1) && (decide (y.2.1 = o.2.2.1) && (decide (y.2.2.1 = o.2.2.2.1) && decide (y.2.2.2.1 = o.2.2.2.2.1)))) = true := this
        rw [this] at hf
        cases hf
      · obtain ⟨hlo, hap⟩ : y ∈ (m.act o).2.2.2 ∧ apartP (rP y) (rP o.2) = false := by
          rcases hby with ⟨h, _⟩ | ⟨h, _⟩ | ⟨_, h⟩
          · omega
          · omega
          · exact h
        have e4 : (m.act o).2.2.2 = m.lost (rP o.2) := by unfold Tb.act; rw [if_neg (by omega), if_neg (by omega), if_neg (by omega), if_pos c4]
        refine ⟨bd, ((m.act o).2.2.2, y), rfl, rfl, rfl, rfl, rfl, rfl, rfl, labs _ (by rw [e4]; exact (hok.part _).2) fun x hx => by rw [e4] at hx; exact ((lost_mem hok).1 hx).1, fun _ _ => ifB_d (fun _ => ⟨bd, (rP y, rP o.2), rfl, rfl, rfl, rfl, rfl, rfl, rfl, rfl, ⟨sane_wf hsy, hwo⟩, fun _ _ => ?_⟩) fun n2 => absurd hlo n2⟩
        dsimp only
        rw [hap]
        exact ifB_fb rfl nx
      · exfalso
        rcases hby with ⟨h, _⟩ | ⟨h, _⟩ | ⟨h, _⟩
        · exact c0 h
        · exact c3 h
        · exact c4 h
  · have hje' : j.toNat = (srtR m.L).length := by omega
    rw [hje', List.take_length] at hg
    have hg : g = ((goneL m (m.act o).1).length : Int) := hg
    have fin : (-9223372036854775808 ≤ (k : Int) + 1 ∧ (k : Int) + 1 ≤ 9223372036854775807) ∧ ∃ (y : Int × Tb), (∃ k : Nat, k ≤ l.length ∧ y = ((k : Int), (Tb.new mo pol).acts (l.take k))) ∧ ((l.length : Int) - y.1).toNat < ((l.length : Int) - k).toNat ∧ (k : Int) + 1 = y.1 ∧ absR tbP (m.act o).1 = absR tbP y.2 ∧ True := by
      refine ⟨by omega, ((k : Int) + 1, (m.act o).1), ⟨k + 1, hlt', by rw [hnext]; rfl⟩, by dsimp only; omega, rfl, rfl, trivial⟩
    have bk : 0 ≤ (k : Int) ∧ (k : Int) < l.length := by omega
    refine ⟨bk, ifB_d (fun c0 => ?_) fun c0 => ⟨bk, ifB_d (fun c4 => ?_) fun c4 => fin⟩⟩
    · obtain ⟨q1, q2, q3⟩ := gone_0 hok c0
      have ab : ((m.act o).2.2.1.length : Int) + ((m.act o).2.2.2.length : Int) ≤ 2000 := by
        have : (goneL m (m.act o).1).length ≤ (srtR m.L).length := List.length_filter_le _ _
        omega
      refine ifB_d (fun hc => by omega) fun _ => ⟨by omega, ifB_nd (fun hc => by omega) fun _ => ifB_b (fun hr => ⟨bk, (srtR (m.act o).1.L, o.2), rfl, rfl, rfl, rfl, rfl, rfl, rfl, by dsimp only; omega, fun _ _ => ifB_nd (fun hc => absurd ((hs'.2.1 _).2 (q3 hr)) hc) fun _ => ⟨bk, ifB_d (fun c4 => by omega) fun _ => fin⟩⟩) fun _ => ⟨bk, ifB_d (fun c4 => by omega) fun _ => fin⟩⟩
    · have q1 := gone_4 hok c4
      exact ifB_nd (fun hc => by omega) fun _ => fin
theorem g_goes13 : Good Tryz.prog 5 GoesL := good_of_owes hM hP GTL1 Tryz.func5 rfl (o_goes13 ▸ p_goes13)
theorem law_goes13 {α β : Prop} (most pol : Int) (l : List Ac) (_ : α) (_ : β) (h : wfT acK l) : GoesL.pre (most, pol, l) := wf_acs13 h
end Sp
end
