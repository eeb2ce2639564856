import Derived.Test.YthnhbnakpmkppaaGreatMgTableGoes8
import Derived.Test.YthnhbnakpmkppaaGreatMgTableGoes22
section
set_option linter.all false
set_option maxRecDepth 10000
namespace Sp
open Go Go.Proofs Sx Go.Proofs.YthnhbnakpmkppaaGreat.Ma
theorem p_cnew : T_cnew := fun x _ => ⟨x.1, rfl, trivial, fun _ _ => ⟨x.1, rfl, trivial, fun _ _ => ⟨(), trivial, fun _ _ => ⟨(2, 64), rfl, rfl, trivial, fun _ _ => ⟨(), trivial, rfl, rfl, rfl, rfl, rfl, trivial⟩⟩⟩⟩⟩
theorem p_cfind : T_cfind := by
  unfold T_cfind; try dsimp only [H_SpTct_8, H_SpTct_4]
  rintro ⟨m, z, a⟩ ⟨h, hw⟩
  refine and_self_of ⟨(z.tr, a), rfl, rfl, rfl, rfl, hw, fun _ _ => ?_⟩
  dsimp only at h ⊢
  rcases h.find a with ⟨x, i, hx, hi, hf, hl⟩ | ⟨hf, hl⟩
  · rw [hl, hf]
    refine ifB_fb rfl ⟨(z, i), rfl, rfl, rfl, rfl, rfl, rfl, trivial, fun _ _ => ?_⟩
    dsimp only
    rw [hi]
    exact ⟨(), trivial, rfl, rfl, rfl, rfl, rfl, rfl, rfl, rfl, rfl, rfl, trivial⟩
  · rw [hl, hf]
    exact ifB_tb rfl ⟨(), trivial, rfl, rfl, rfl, rfl, rfl, rfl, rfl, rfl, rfl, rfl, trivial⟩
theorem p_chit : T_chit := by
  unfold T_chit; try dsimp only [H_SpTct_9, H_SpTct_2, H_SpTct_11]
  rintro ⟨m, z, a⟩ ⟨h, hw⟩
  refine and_self_of ⟨(z.tr, a), rfl, rfl, rfl, rfl, hw, fun _ _ => ?_⟩
  dsimp only at h ⊢
  rcases h.find a with ⟨x, i, hx, hi, hf, hl⟩ | ⟨hf, hl⟩
  · have hio : i ∈ z.rc.1 := (h.used i).1 (by rw [hi]; rfl)
    have hu : m.hit a = m.use x := by unfold Tb.hit; rw [hf]
    have e1 : (z.sl.pl i).getD zRt = x := by rw [hi]; rfl
    rw [hl, hf, hu]
    refine ifB_fb rfl ⟨(z.rc, i), rfl, rfl, trivial, fun _ _ => ?_⟩
    dsimp only
    rw [if_pos (h.in' hio)]
    refine ⟨(⟨(i :: z.rc.1.erase i, z.rc.2), z.sl, z.tr, z.sk, z.pol⟩, i), rfl, rfl, rfl, rfl, rfl, rfl, trivial, fun _ _ => ⟨(z.sk, rP ((z.sl.pl i).getD zRt)), rfl, rfl, rfl, rfl, rfl, ?_, fun _ _ => ⟨(useZ z i, i), rfl, rfl, rfl, rfl, rfl, rfl, trivial, fun _ _ => ⟨useZ z i, h.use hi, ?_⟩⟩⟩⟩
    · dsimp only; rw [e1]; exact sane_wf (h.sane hi).2
    · have e2 : (useZ z i).sl.pl i = some x := hi
      dsimp only
      rw [e2]
      exact ⟨rfl, rfl, rfl, rfl, rfl, rfl, rfl, rfl, rfl, rfl, trivial⟩
  · have hu : m.hit a = m := by unfold Tb.hit; rw [hf]
    rw [hl, hf, hu]
    exact ifB_tb rfl ⟨z, h, rfl, rfl, rfl, rfl, rfl, rfl, rfl, rfl, rfl, rfl, trivial⟩
theorem leaves_same : ∀ (l : List Rt) (z : TbZ), (leavesZ z l).pol = z.pol ∧ (leavesZ z l).sk = z.sk
  | [], _ => ⟨rfl, rfl⟩
  | r :: l, z => leaves_same l (leaveZ z r.2.2.2.2)
def Tail (pol : Int) (rc : RcM) (sl : SlM) (tr : TrM) (sk : Sk) (x : Rt) (okf : TbZ → Prop) (E1 E2 E3 E4 E5 : Prop) : Prop :=
  ∃ x_11 : SlM × Rt, x.1 = x_11.2.1 ∧ x.2.1 = x_11.2.2.1 ∧ x.2.2.1 = x_11.2.2.2.1 ∧ x.2.2.2.1 = x_11.2.2.2.2.1 ∧ x.2.2.2.2 = x_11.2.2.2.2.2 ∧ absR slP sl = absR slP x_11.1 ∧ True ∧ ∀ y : Int, (x_11.1.n < x_11.1.most → x_11.1.pl y = none ∧ 0 ≤ y ∧ y < x_11.1.most) ∧ (¬x_11.1.n < x_11.1.most → y = 0) →
  ∃ x_12 : TrM × Pf × Int, x.1 = x_12.2.1.1 ∧ x.2.1 = x_12.2.1.2.1 ∧ x.2.2.1 = x_12.2.1.2.2.1 ∧ x.2.2.2.1 = x_12.2.1.2.2.2 ∧ y = x_12.2.2 ∧ absR trP tr = absR trP x_12.1 ∧ (wfP x_12.2.1 ∧ x_12.1.k ≤ 7000) ∧ ∀ y_1 : Unit, True →
  ∃ x_13 : RcM × Int, y = x_13.2 ∧ absR rcP rc = absR rcP x_13.1 ∧ True ∧ ∀ y_2 : Unit, True →
  ∃ x_14 : TbZ × Int, y = x_14.2 ∧ pol = x_14.1.pol ∧ absR rcP (if x_13.1.in' x_13.2 = true then (x_13.2 :: x_13.1.1.erase x_13.2, x_13.1.2) else x_13.1) = absR rcP x_14.1.rc ∧ absR slP (if x_11.1.n < x_11.1.most then SlM.mk (updF x_11.1.pl y (some x_11.2)) (x_11.1.n + 1) x_11.1.most else x_11.1) = absR slP x_14.1.sl ∧ absR trP (x_12.1.put x_12.2.1 x_12.2.2) = absR trP x_14.1.tr ∧ absR skP sk = absR skP x_14.1.sk ∧ True ∧ ∀ y_3 : Unit, True →
  ∃ x_15 : Sk × Pf, ((x_14.1.sl.pl x_14.2).getD zRt).1 = x_15.2.1 ∧ ((x_14.1.sl.pl x_14.2).getD zRt).2.1 = x_15.2.2.1 ∧ ((x_14.1.sl.pl x_14.2).getD zRt).2.2.1 = x_15.2.2.2.1 ∧ ((x_14.1.sl.pl x_14.2).getD zRt).2.2.2.1 = x_15.2.2.2.2 ∧ absR skP sk = absR skP x_15.1 ∧ wfP x_15.2 ∧ ∀ y_4 : Unit, True →
  ∃ y : TbZ, okf y ∧ E1 ∧ E2 ∧ E3 ∧ absR rcP (if x_13.1.in' x_13.2 = true then (x_13.2 :: x_13.1.1.erase x_13.2, x_13.1.2) else x_13.1) = absR rcP y.rc ∧ absR slP x_14.1.sl = absR slP y.sl ∧ absR trP (x_12.1.put x_12.2.1 x_12.2.2) = absR trP y.tr ∧ absR skP (addK x_15.1 x_15.2) = absR skP y.sk ∧ E4 ∧ E5 ∧ True
theorem tail_ok {m : Tb} {w : TbZ} {x : Rt} {okf : TbZ → Prop} {E1 E2 E3 E4 E5 : Prop} (h : okTb m w) (hg : goodR x = true) (hd : ∀ y ∈ m.L, coversP (rP x) (rP y) = false ∧ coversP (rP y) (rP x) = false) (hl : (m.L.length : Int) < m.most) (hk : m.k ≤ 7000)
    (hf : ∀ y, okTb (m.put x) y → okf y) (e1 : E1) (e2 : E2) (e3 : E3) (e4 : E4) (e5 : E5) : Tail w.pol w.rc w.sl w.tr w.sk x okf E1 E2 E3 E4 E5 := by
  have hs := good_sane hg
  have hn : w.sl.n < w.sl.most := by have := h.n; have := h.most; omega
  refine ⟨(w.sl, x), rfl, rfl, rfl, rfl, rfl, rfl, trivial, fun i hi => ?_⟩
  obtain ⟨i1, i2, i3⟩ := hi.1 hn
  dsimp only at i1 i3
  have hm := h.most
  have hin : w.rc.in' i = true := by unfold RcM.in'; simp only [Bool.and_eq_true, decide_eq_true_eq]; omega
  have hup : updF w.sl.pl i (some x) i = some x := by unfold updF; rw [if_pos rfl]
  refine ⟨(w.tr, rP x, i), rfl, rfl, rfl, rfl, rfl, rfl, ⟨sane_wf hs, by dsimp only; rw [h.k]; exact hk⟩, fun _ _ => ⟨(w.rc, i), rfl, rfl, trivial, fun _ _ => ?_⟩⟩
  dsimp only
  rw [if_pos hin, if_pos hn]
  refine ⟨(⟨(i :: w.rc.1.erase i, w.rc.2), ⟨updF w.sl.pl i (some x), w.sl.n + 1, w.sl.most⟩, w.tr.put (rP x) i, w.sk, w.pol⟩, i), rfl, rfl, rfl, rfl, rfl, rfl, trivial, fun _ _ => ?_⟩
  dsimp only
  rw [hup]
  exact ⟨(w.sk, rP x), rfl, rfl, rfl, rfl, rfl, sane_wf hs, fun _ _ => ⟨putZ w x i, hf _ (h.put i1 ⟨i2, by omega⟩ hg hd hl), e1, e2, e3, rfl, rfl, rfl, rfl, e4, e5, trivial⟩⟩
theorem p_cinstall : T_cinstall := by
  unfold T_cinstall; try dsimp only [H_SpTct_12, H_SpTct_7, H_SpTct_5, H_SpTct_3, H_SpTct_1, H_SpTct_13, H_SpTct_11]
  rintro ⟨m, z, x, soft⟩ ⟨h, hw, hk⟩
  dsimp only at h hw hk ⊢
  have hk : m.k + m.L.length ≤ 6000 := hk
  have hm := h.most
  have hn := h.n
  have fin : m.install x soft = (m, false, [], []) → ∃ y : TbZ, okTb (m.install x soft).1 y ∧ false = (m.install x soft).2.1 ∧ 0 = (m.install x soft).2.2.1.length ∧ 0 = (m.install x soft).2.2.2.length ∧ absR rcP z.rc = absR rcP y.rc ∧ absR slP z.sl = absR slP y.sl ∧ absR trP z.tr = absR trP y.tr ∧ absR skP z.sk = absR skP y.sk ∧ [] = (m.install x soft).2.2.1 ∧ [] = (m.install x soft).2.2.2 ∧ True := by
    intro e
    rw [e]
    exact ⟨z, h, rfl, rfl, rfl, rfl, rfl, rfl, rfl, rfl, rfl, trivial⟩
  have ref : m.refused x = true → m.install x soft = (m, false, [], []) := fun e => by unfold Tb.install; rw [if_pos e]
  have sof : m.refused x = false → (soft && (!(m.insd (rP x)).isEmpty || decide (m.most ≤ m.L.length))) = true → m.install x soft = (m, false, [], []) := fun e e2 => by unfold Tb.install; rw [if_neg (by rw [e]; decide), if_pos e2]
  obtain ⟨lok, lmap, lok2⟩ := h.inside (by omega) (fun p => coversP (rP x) p)
  have lmap : (undE z.tr.e (rP x)).map (atZ z) = m.insd (rP x) := lmap
  have lok : LeaveOk z (undE z.tr.e (rP x)) := lok
  have lok2 : okTb (m.minus (m.insd (rP x))) (leavesZ z (undE z.tr.e (rP x))) := lok2
  have hmem := (h.part fun y => coversP (rP x) (rP y)).1
  have hmem : ∀ y, y ∈ m.insd (rP x) ↔ y ∈ m.L ∧ coversP (rP x) (rP y) = true := hmem
  have hsm := h.minus_small fun y => coversP (rP x) (rP y)
  have hsm : (m.minus (m.insd (rP x))).k + (m.minus (m.insd (rP x))).L.length = m.k + m.L.length ∧ (m.minus (m.insd (rP x))).L.length ≤ m.L.length := hsm
  have llen : (undE z.tr.e (rP x)).length = (m.insd (rP x)).length := by rw [← lmap, List.length_map]
  have hms := minus_same (m.insd (rP x)) m
  have hw2 : { leavesZ z (undE z.tr.e (rP x)) with pol := z.pol, sk := z.sk } = leavesZ z (undE z.tr.e (rP x)) := by
    obtain ⟨a, b⟩ := leaves_same (undE z.tr.e (rP x)) z
    cases hz : leavesZ z (undE z.tr.e (rP x))
    rw [hz] at a b
    simp only at a b
    rw [a, b]
  refine ⟨z.sl, rfl, trivial, fun _ _ => ifB_d (fun h0 => fin (ref ?_)) fun h0 => ⟨x, rfl, rfl, rfl, rfl, rfl, hw, fun _ _ => ifB_b (fun hg => fin (ref ?_)) fun hg => ⟨(z.tr, rP x), rfl, rfl, rfl, rfl, rfl, hw, fun _ _ => ifB_d (fun ha => fin (ref ?_)) fun ha => ⟨(z.tr, rP x), rfl, rfl, rfl, rfl, rfl, hw, fun _ _ => ?_⟩⟩⟩⟩
  · unfold Tb.refused
    rw [decide_eq_true (by omega), Bool.true_or]
  · unfold Tb.refused
    rw [hg, Bool.true_or, Bool.or_true]
  · unfold Tb.refused
    rcases h.above (rP x) with ⟨c, i, hc, hi, hcc, he⟩ | ⟨he, _⟩
    · have : (m.L.any fun r => coversP (rP r) (rP x)) = true := List.any_eq_true.2 ⟨c, hc, hcc⟩
      rw [this, Bool.or_true, Bool.or_true]
    · dsimp only at ha
      rw [he] at ha
      simp at ha
  have hgood : goodR x = true := by simpa using hg
  have hnone : ∀ c ∈ m.L, coversP (rP c) (rP x) = false := by
    rcases h.above (rP x) with ⟨c, i, hc, hi, hcc, he⟩ | ⟨he, hn⟩
    · dsimp only at ha
      rw [he] at ha
      simp at ha
    · exact hn
  have hnr : m.refused x = false := by
    unfold Tb.refused
    have : (m.L.any fun r => coversP (rP r) (rP x)) = false := List.any_eq_false.2 fun c hc => by rw [hnone c hc]; decide
    rw [this, hgood, decide_eq_false (by omega)]
    rfl
  have hdis : ∀ y ∈ (m.minus (m.insd (rP x))).L, coversP (rP x) (rP y) = false ∧ coversP (rP y) (rP x) = false := by
    intro y hy
    obtain ⟨y1, y2⟩ := mem_minus.1 hy
    refine ⟨?_, hnone y y1⟩
    cases hc : coversP (rP x) (rP y) with
    | false => rfl
    | true => exact absurd ((hmem y).2 ⟨y1, hc⟩) y2
  dsimp only
  refine ifB_b (fun hs => ifB_d (fun hl => fin (sof hnr ?_)) fun hl => ⟨z.sl, rfl, trivial, fun _ _ => ⟨z.sl, rfl, trivial, fun _ _ => ifB_d (fun hfull => fin (sof hnr ?_)) fun hfull => ?_⟩⟩) fun hs => ?_
  · have : (m.insd (rP x)).isEmpty = false := by
      cases hi : m.insd (rP x) with
      | nil => rw [llen, hi] at hl; simp at hl
      | cons a t => rfl
    rw [hs, this]
    rfl
  · rw [hs, decide_eq_true (show m.most ≤ (m.L.length : Int) by omega), Bool.or_true]
    rfl
  all_goals
    have hns : (soft && (!(m.insd (rP x)).isEmpty || decide (m.most ≤ m.L.length))) = false := by
      first
        | (rw [hs]; rfl)
        | (have h1 : m.insd (rP x) = [] := by
             cases hi : m.insd (rP x) with
             | nil => rfl
             | cons a t => rw [llen, hi] at hl; simp at hl
           rw [hs, h1, decide_eq_false (show ¬ m.most ≤ (m.L.length : Int) by omega)]
           rfl)
    have inst1 : m.most ≤ (m.minus (m.insd (rP x))).L.length → m.install x soft = (((m.minus (m.insd (rP x))).drop (m.minus (m.insd (rP x))).victim).put x, true, m.insd (rP x), [(m.minus (m.insd (rP x))).victim]) := fun hc => by
      unfold Tb.install
      rw [if_neg (by rw [hnr]; decide), if_neg (by rw [hns]; decide), if_pos (by rw [hms.1]; exact hc)]
    have inst2 : ¬ m.most ≤ (m.minus (m.insd (rP x))).L.length → m.install x soft = ((m.minus (m.insd (rP x))).put x, true, m.insd (rP x), []) := fun hc => by
      unfold Tb.install
      rw [if_neg (by rw [hnr]; decide), if_neg (by rw [hns]; decide), if_neg (by rw [hms.1]; exact hc)]
    have hn2 := lok2.n
    have hm2 := lok2.most
    rw [hms.1] at hn2 hm2
    refine ⟨(z, undE z.tr.e (rP x)), rfl, rfl, rfl, rfl, rfl, rfl, rfl, lok, fun _ _ => ⟨(leavesZ z (undE z.tr.e (rP x))).sl, rfl, trivial, fun _ _ => ⟨(leavesZ z (undE z.tr.e (rP x))).sl, rfl, trivial, fun _ _ => ifB_d (fun hfull => ?_) fun hfull => ?_⟩⟩⟩
    · have hne : (m.minus (m.insd (rP x))).L.length ≠ 0 := by omega
      have hv := lok2.victim hne
      have hlv := lok2.leave hv
      have hdl : ((m.minus (m.insd (rP x))).drop (m.minus (m.insd (rP x))).victim).L.length + 1 = (m.minus (m.insd (rP x))).L.length := filter_ne_len (dis_nodup lok2.good lok2.dis) (lok2.mem.2 ⟨_, hv⟩)
      rw [inst1 (by omega)]
      have hli : LightOk (leavesZ z (undE z.tr.e (rP x))) := by
        rcases lok2.light hne with k | k
        · have e : { leavesZ z (undE z.tr.e (rP x)) with pol := (m.minus (m.insd (rP x))).pol, sk := (m.minus (m.insd (rP x))).sk } = leavesZ z (undE z.tr.e (rP x)) := by
            rw [← lok2.pol, ← lok2.sk]
          rw [e] at k
          exact k
        · omega
      refine ⟨{ leavesZ z (undE z.tr.e (rP x)) with pol := z.pol, sk := z.sk }, rfl, rfl, rfl, rfl, rfl, by rw [hw2]; exact hli, fun _ _ => ?_⟩
      have e5 : (atZ z) = atZ z := rfl
      rw [hw2]
      rw [hv]
      dsimp only [Option.getD_some]
      have hp : (leaveZ (leavesZ z (undE z.tr.e (rP x))) (lightZ (leavesZ z (undE z.tr.e (rP x))))).pol = z.pol := (leaves_same _ z).1
      rw [← hp]
      refine tail_ok hlv hgood (fun y hy => hdis y (mem_drop.1 hy).1) (by show (((m.minus (m.insd (rP x))).drop (m.minus (m.insd (rP x))).victim).L.length : Int) < (m.minus (m.insd (rP x))).most; rw [hms.1]; omega) (by show (m.minus (m.insd (rP x))).k + 1 ≤ 7000; omega) (fun y hy => hy) rfl llen rfl lmap rfl
    · rw [inst2 (by omega)]
      have hp : (leavesZ z (undE z.tr.e (rP x))).pol = z.pol := (leaves_same _ z).1
      have hq : (leavesZ z (undE z.tr.e (rP x))).sk = z.sk := (leaves_same _ z).2
      rw [← hp, ← hq]
      refine tail_ok lok2 hgood hdis (by rw [hms.1]; omega) (by omega) (fun y hy => hy) rfl llen rfl lmap rfl
theorem p_cevict : T_cevict := by
  unfold T_cevict; try dsimp only [H_SpTct_10, H_SpTct_5]
  rintro ⟨m, z, p⟩ ⟨h, hw, hk⟩
  dsimp only at h hw hk ⊢
  have hk : m.k + m.L.length ≤ 6000 := hk
  refine ⟨(z.tr, p), rfl, rfl, rfl, rfl, rfl, hw, fun _ _ => ?_⟩
  dsimp only
  rcases h.has p with ⟨x, i, hi, hh, hg⟩ | ⟨hh, hg⟩
  · have hev : m.evict p = m.drop x := by unfold Tb.evict; rw [hh]
    rw [hg, hh, hev]
    exact ifB_tb rfl ⟨(z, i), rfl, rfl, rfl, rfl, rfl, rfl, ⟨⟨x, hi, sane_wf (h.sane hi).2⟩, by dsimp only; rw [h.k]; omega⟩, fun _ _ => ⟨leaveZ z i, h.leave hi, rfl, rfl, rfl, rfl, rfl, trivial⟩⟩
  · have hev : m.evict p = m := by unfold Tb.evict; rw [hh]
    rw [hg, hh, hev]
    exact ifB_fb rfl ⟨z, h, rfl, rfl, rfl, rfl, rfl, trivial⟩
theorem p_cflush : T_cflush := by
  unfold T_cflush; try dsimp only [H_SpTct_10, H_SpTct_5]
  rintro ⟨m, z, p⟩ ⟨h, hw, hk⟩
  dsimp only at h hw hk ⊢
  have hk : m.k + m.L.length ≤ 6000 := hk
  refine ⟨p, rfl, rfl, rfl, rfl, hw, fun _ _ => ifB_b (fun hs => ?_) fun hs => ⟨(z.tr, p), rfl, rfl, rfl, rfl, rfl, hw, fun _ _ => ?_⟩⟩
  · have hs : saneP p = false := by simpa using hs
    have hl : m.lost p = [] := by
      unfold Tb.lost
      have : (m.L.filter fun r => coversP p (rP r) || coversP (rP r) p) = [] := List.filter_eq_nil_iff.2 fun r hr hc => by
        simp only [Bool.or_eq_true] at hc
        rcases hc with hc | hc
        · have := (covers_iff.1 hc).1; rw [hs] at this; cases this
        · have := (covers_iff.1 hc).2.1; rw [hs] at this; cases this
      rw [this]
      rfl
    have hf : m.flush p = m := by unfold Tb.flush; rw [hl]; rfl
    rw [hf, hl]
    exact ⟨z, h, rfl, rfl, rfl, rfl, rfl, rfl, trivial⟩
  dsimp only
  have ab := h.inside (by omega) (fun q => coversP q p)
  have un := h.inside (by omega) (fun q => coversP p q)
  rcases h.above p with ⟨c, i, hc, hi, hcc, he⟩ | ⟨he, hn⟩
  · have hlo := lost_two h hc hcc
    have hf : m.flush p = m.minus (m.lost p) := rfl
    obtain ⟨a1, a2, a3⟩ := ab
    rw [← hlo] at a2 a3
    have a1 : LeaveOk z (abvE z.tr.e p) := a1
    have a2 : (abvE z.tr.e p).map (atZ z) = m.lost p := a2
    have a3 : okTb (m.flush p) (leavesZ z (abvE z.tr.e p)) := a3
    refine ifB_eq (by rw [he]; simp) ⟨(z, abvE z.tr.e p), rfl, rfl, rfl, rfl, rfl, rfl, rfl, a1, fun _ _ => ⟨leavesZ z (abvE z.tr.e p), a3, by rw [← a2, List.length_map], rfl, rfl, rfl, ?_, a2, trivial⟩⟩
    rw [(leaves_same _ z).2]
  · have hlo := lost_one h hn
    obtain ⟨a1, a2, a3⟩ := un
    have a1 : LeaveOk z (undE z.tr.e p) := a1
    have a2 : (undE z.tr.e p).map (atZ z) = m.insd p := a2
    have a3 : okTb (m.minus (m.insd p)) (leavesZ z (undE z.tr.e p)) := a3
    rw [← hlo] at a2 a3
    refine ifB_d (fun hx => absurd hx (by rw [he]; decide)) fun _ => ⟨(z.tr, p), rfl, rfl, rfl, rfl, rfl, hw, fun _ _ => ⟨(z, undE z.tr.e p), rfl, rfl, rfl, rfl, rfl, rfl, rfl, a1, fun _ _ => ⟨leavesZ z (undE z.tr.e p), a3, by rw [← a2, List.length_map], rfl, rfl, rfl, ?_, a2, trivial⟩⟩⟩
    rw [(leaves_same _ z).2]
theorem p_ctick : T_ctick := by
  rintro ⟨m, z⟩ h
  exact ⟨z.sk, rfl, trivial, fun _ _ => ⟨_, h.tick, rfl, rfl, rfl, rfl, trivial⟩⟩
theorem p_csize : T_csize := by
  rintro ⟨m, z⟩ h
  dsimp only at h ⊢
  exact ⟨z.rc, rfl, trivial, fun _ _ => ⟨z.sl, rfl, trivial, fun _ _ => ⟨(), trivial, by rw [h.len], h.most.2.1, rfl, rfl, rfl, rfl, trivial⟩⟩⟩
end Sp
end
section
set_option linter.all false
set_option maxRecDepth 10000
namespace Sp
open Go Go.Proofs Sx Go.Proofs.YthnhbnakpmkppaaGreat.Ma
theorem p_corder : T_corder := by
  rintro ⟨m, z⟩ h
  dsimp only at h ⊢
  have hlen := h.len
  have hb : (m.L.length : Int) ≤ 1024 := by have := h.n; have := h.most; omega
  refine ⟨z.rc, rfl, trivial, fun _ _ => ⟨fun x => 0 ≤ x.1 ∧ x.1 ≤ m.L.length ∧ x.2 = (z, (m.L.take x.1.toNat).map rP), fun x => (m.L.length - x.1).toNat, ⟨(0, z, []), ⟨by simp, by simp, rfl⟩, rfl, rfl, rfl, rfl, trivial⟩, ?_⟩⟩
  rintro ⟨i, w, out⟩ ⟨i0, i1, i2⟩
  dsimp only at i0 i1 i2
  cases i2
  have hl : ((m.L.take i.toNat).map rP).length = i.toNat := by rw [List.length_map]; exact take_len' (by omega)
  dsimp only
  refine ifB_d (fun hlt => ?_) fun hge => ?_
  · have hlt' : i.toNat < m.L.length := by omega
    have hat := h.at_ord hlt'
    have hsn := take_snoc zRt hlt'
    refine ⟨by omega, (z, z.rc.1.getD i.toNat 0), rfl, rfl, rfl, rfl, rfl, rfl, trivial, fun _ _ => ?_⟩
    dsimp only
    rw [hat]
    refine ⟨⟨?_, ?_⟩, by omega, (i + 1, z, (m.L.take (i + 1).toNat).map rP), ⟨by dsimp only; omega, by dsimp only; omega, rfl⟩, by dsimp only; omega, rfl, ?_, rfl, ?_, trivial⟩
    · rw [hl]; simp; omega
    · rw [hl]; simp; omega
    · rw [hl]
      dsimp only
      rw [List.length_map, take_len' (by omega)]
      simp
      omega
    · dsimp only
      rw [show (i + 1).toNat = i.toNat + 1 by omega, hsn, List.map_append]
      rfl
  · have e : m.L.take i.toNat = m.L := List.take_of_length_le (by omega)
    rw [e]
    exact ⟨(), trivial, List.length_map .., rfl, rfl, rfl, rfl, rfl, trivial⟩
theorem okTb.whole {m : Tb} {z : TbZ} (h : okTb m z) : (undE z.tr.e (0, 0, false, 0)).map (atZ z) ++ (undE z.tr.e (0, 0, true, 0)).map (atZ z) = srtR m.L := by
  have hcov : ∀ v6 : Bool, ∀ r ∈ z.tr.e, coversP (0, 0, v6, 0) (rP r) = decide (r.2.2.1 = v6) := by
    intro v6 r hr
    have hs := h.snn r hr
    have h0 : saneP (0, 0, v6, 0) = true := by cases v6 <;> decide +kernel
    have hb : bitsP (0, 0, v6, 0) = [] := by cases v6 <;> decide +kernel
    rw [Bool.eq_iff_iff, covers_iff, decide_eq_true_eq, hb]
    constructor
    · rintro ⟨_, _, h6, _⟩
      exact h6.symm
    · intro h6
      exact ⟨h0, hs, h6.symm, List.nil_prefix⟩
  have e : undE z.tr.e (0, 0, false, 0) ++ undE z.tr.e (0, 0, true, 0) = z.tr.e := by
    refine srt_same ?_ h.srt fun r => ?_
    · refine List.pairwise_append.2 ⟨srt_filter h.srt _, srt_filter h.srt _, fun a ha b hb => ?_⟩
      obtain ⟨a1, a2⟩ := List.mem_filter.1 ha
      obtain ⟨b1, b2⟩ := List.mem_filter.1 hb
      rw [hcov _ a a1, decide_eq_true_eq] at a2
      rw [hcov _ b b1, decide_eq_true_eq] at b2
      unfold pLtB
      have a2 : (rP a).2.2.1 = false := a2
      have b2 : (rP b).2.2.1 = true := b2
      rw [a2, b2]
      rfl
    · unfold undE
      rw [List.mem_append, List.mem_filter, List.mem_filter]
      constructor
      · rintro (⟨k, _⟩ | ⟨k, _⟩) <;> exact k
      · intro k
        rw [hcov _ r k, hcov _ r k]
        rcases Bool.eq_false_or_eq_true r.2.2.1 with h6 | h6
        · exact .inr ⟨k, decide_eq_true h6⟩
        · exact .inl ⟨k, decide_eq_true h6⟩
  rw [← List.map_append, e]
  have hr := h.routes fun _ => true
  have t1 : z.tr.e.filter (fun r => (fun _ => true) (rP r)) = z.tr.e := List.filter_eq_self.2 fun _ _ => rfl
  have t2 : m.L.filter (fun x => (fun _ => true) (rP x)) = m.L := List.filter_eq_self.2 fun _ _ => rfl
  rw [t1, t2] at hr
  exact hr
theorem p_call : T_call := by
  unfold T_call; try dsimp only [H_SpTct_5, H_SpTct_6]
  rintro ⟨m, z⟩ h
  dsimp only at h ⊢
  have hw := h.whole
  have hb : (m.L.length : Int) ≤ 1024 := by have := h.n; have := h.most; omega
  have hsl : (srtR m.L).length ≤ 1024 := by
    have k := (h.part fun _ => true)
    have t2 : m.L.filter (fun _ => true) = m.L := List.filter_eq_self.2 fun _ _ => rfl
    rw [t2] at k
    have := k.2.length_le_of_subset (l₂ := m.L) fun x hx => ((k.1 x).1 hx).1
    omega
  have hw4 : wfP (0, 0, false, 0) := ⟨⟨by decide, by decide⟩, ⟨by decide, by decide⟩⟩
  have hw6 : wfP (0, 0, true, 0) := ⟨⟨by decide, by decide⟩, ⟨by decide, by decide⟩⟩
  have hlen := congrArg List.length hw
  rw [List.length_append, List.length_map, List.length_map] at hlen
  refine ⟨by decide, (z.tr, (0, 0, false, 0)), rfl, rfl, rfl, rfl, rfl, hw4, fun _ _ => ?_⟩
  dsimp only
  generalize hA : undE z.tr.e (0, 0, false, 0) = A at *
  refine ⟨fun x => 0 ≤ x.1 ∧ x.1 ≤ A.length ∧ x.2 = (z, (A.take x.1.toNat).map (atZ z)), fun x => (A.length - x.1).toNat, ⟨(0, z, []), ⟨by simp, by simp, rfl⟩, rfl, rfl, rfl, rfl, trivial⟩, ?_⟩
  rintro ⟨i, w, out⟩ ⟨i0, i1, i2⟩
  dsimp only at i0 i1 i2
  cases i2
  have hl : ((A.take i.toNat).map (atZ z)).length = i.toNat := by rw [List.length_map]; exact take_len' (by omega)
  dsimp only
  refine ifB_d (fun hlt => ?_) fun hge => ?_
  · have hlt' : i.toNat < A.length := by omega
    have hsn := take_snoc ((0, 0, false, 0, 0) : Rt) hlt'
    refine ⟨by omega, (z, (A.getD i.toNat (0, 0, false, 0, 0)).2.2.2.2), rfl, rfl, rfl, rfl, rfl, rfl, trivial, fun _ _ => ?_⟩
    dsimp only
    refine ⟨⟨?_, ?_⟩, by omega, (i + 1, z, (A.take (i + 1).toNat).map (atZ z)), ⟨by dsimp only; omega, by dsimp only; omega, rfl⟩, by dsimp only; omega, rfl, ?_, rfl, ?_, trivial⟩
    · rw [hl]; simp; omega
    · rw [hl]; simp; omega
    · rw [hl]
      dsimp only
      rw [List.length_map, take_len' (by omega)]
      simp
      omega
    · dsimp only
      rw [show (i + 1).toNat = i.toNat + 1 by omega, hsn, List.map_append]
      rfl
  · have e : A.take i.toNat = A := List.take_of_length_le (by omega)
    rw [e]
    refine ⟨by decide, by decide, (z.tr, (0, 0, true, 0)), rfl, rfl, rfl, rfl, rfl, hw6, fun _ _ => ?_⟩
    dsimp only
    generalize hB : undE z.tr.e (0, 0, true, 0) = B at *
    refine ⟨fun x => 0 ≤ x.1 ∧ x.1 ≤ B.length ∧ x.2 = (z, A.map (atZ z) ++ (B.take x.1.toNat).map (atZ z)), fun x => (B.length - x.1).toNat, ⟨(0, z, A.map (atZ z)), ⟨by simp, by simp, by simp⟩, rfl, rfl, rfl, rfl, trivial⟩, ?_⟩
    rintro ⟨j, w, out⟩ ⟨j0, j1, j2⟩
    dsimp only at j0 j1 j2
    cases j2
    have hl : (A.map (atZ z) ++ (B.take j.toNat).map (atZ z)).length = A.length + j.toNat := by rw [List.length_append, List.length_map, List.length_map, take_len' (by omega)]
    dsimp only
    refine ifB_d (fun hlt => ?_) fun hge => ?_
    · have hlt' : j.toNat < B.length := by omega
      have hsn := take_snoc ((0, 0, false, 0, 0) : Rt) hlt'
      refine ⟨by omega, (z, (B.getD j.toNat (0, 0, false, 0, 0)).2.2.2.2), rfl, rfl, rfl, rfl, rfl, rfl, trivial, fun _ _ => ?_⟩
      dsimp only
      refine ⟨⟨?_, ?_⟩, by omega, (j + 1, z, A.map (atZ z) ++ (B.take (j + 1).toNat).map (atZ z)), ⟨by dsimp only; omega, by dsimp only; omega, rfl⟩, by dsimp only; omega, rfl, ?_, rfl, ?_, trivial⟩
      · rw [hl]; simp; omega
      · rw [hl]; simp; omega
      · rw [hl]
        dsimp only
        rw [List.length_append, List.length_map, List.length_map, take_len' (by omega)]
        simp
        omega
      · dsimp only
        rw [show (j + 1).toNat = j.toNat + 1 by omega, hsn, List.map_append, List.append_assoc]
        rfl
    · have e : B.take j.toNat = B := List.take_of_length_le (by omega)
      rw [e, hw]
      exact ⟨by decide, (), trivial, rfl, rfl, rfl, rfl, rfl, rfl, trivial⟩
/-! ### a table told asq one -/
theorem p_tcnew : T_tcnew := fun x _ => ⟨x, rfl, rfl, trivial, fun _ _ => ⟨Tb.new x.1 x.2, newZ x.1 x.2, newTb_ok x.1 x.2, rfl, rfl, rfl, rfl, rfl, (), trivial, rfl, trivial⟩⟩
theorem p_tcfind : T_tcfind := by
  unfold T_tcfind; try dsimp only [H_SpTct_14]
  rintro ⟨m, a⟩ hw
  exact ⟨m, rfl, fun z hz => ⟨(m, z, a), rfl, rfl, rfl, rfl, rfl, rfl, rfl, rfl, ⟨hz, hw⟩, fun _ _ => ⟨m, z, hz, rfl, rfl, rfl, rfl, rfl, (), trivial, rfl, rfl, rfl, rfl, rfl, rfl, rfl, trivial⟩⟩⟩
theorem p_tchit : T_tchit := by
  unfold T_tchit; try dsimp only [H_SpTct_14]
  rintro ⟨m, a⟩ hw
  refine ⟨m, rfl, fun z hz => ⟨(m, z, a), rfl, rfl, rfl, rfl, rfl, rfl, rfl, rfl, ⟨hz, hw⟩, fun y hy => ⟨m.hit a, { y with pol := z.pol }, ?_, rfl, rfl, rfl, rfl, rfl, (), trivial, rfl, rfl, rfl, rfl, rfl, rfl, rfl, trivial⟩⟩⟩
  have e : y.pol = z.pol := by
    rw [hy.pol, hz.pol]
    show (m.hit a).pol = m.pol
    unfold Tb.hit
    split <;> rfl
  rw [← e]
  exact hy
theorem install_pol (m : Tb) (x : Rt) (soft : Bool) : (m.install x soft).1.pol = m.pol ∧ (m.install x soft).1.most = m.most := by
  have h := minus_same (m.insd (rP x)) m
  unfold Tb.install
  split
  · exact ⟨rfl, rfl⟩
  · split
    · exact ⟨rfl, rfl⟩
    · split
      · exact ⟨h.2.1, h.1⟩
      · exact ⟨h.2.1, h.1⟩
theorem p_tcinstall : T_tcinstall := by
  unfold T_tcinstall; try dsimp only [H_SpTct_12]
  rintro ⟨m, x, soft⟩ ⟨hw, hk⟩
  refine ⟨m, rfl, fun z hz => ⟨(m, z, x, soft), rfl, rfl, rfl, rfl, rfl, rfl, rfl, rfl, rfl, rfl, rfl, ⟨hz, hw, hk⟩, fun y hy => ⟨(m.install x soft).1, { y with pol := z.pol }, ?_, rfl, rfl, rfl, rfl, rfl, (), trivial, rfl, rfl, rfl, rfl, rfl, rfl, trivial⟩⟩⟩
  have e : y.pol = z.pol := by
    rw [hy.pol, hz.pol]
    exact (install_pol m x soft).1
  rw [← e]
  exact hy
theorem p_tcevict : T_tcevict := by
  unfold T_tcevict; try dsimp only [H_SpTct_15, H_SpTct_10]
  rintro ⟨m, p⟩ ⟨hw, hk⟩
  refine ⟨m, rfl, fun z hz => ⟨(m, z, p), rfl, rfl, rfl, rfl, rfl, rfl, rfl, rfl, rfl, ⟨hz, hw, hk⟩, fun y hy => ⟨m.evict p, { y with pol := z.pol }, ?_, rfl, rfl, rfl, rfl, rfl, (), trivial, rfl, rfl, trivial⟩⟩⟩
  have e : y.pol = z.pol := by
    rw [hy.pol, hz.pol]
    show (m.evict p).pol = m.pol
    unfold Tb.evict
    split <;> rfl
  rw [← e]
  exact hy
theorem p_tcflush : T_tcflush := by
  unfold T_tcflush; try dsimp only [H_SpTct_15, H_SpTct_10]
  rintro ⟨m, p⟩ ⟨hw, hk⟩
  refine ⟨m, rfl, fun z hz => ⟨(m, z, p), rfl, rfl, rfl, rfl, rfl, rfl, rfl, rfl, rfl, ⟨hz, hw, hk⟩, fun y hy => ⟨m.flush p, { y with pol := z.pol }, ?_, rfl, rfl, rfl, rfl, rfl, (), trivial, rfl, rfl, rfl, trivial⟩⟩⟩
  have e : y.pol = z.pol := by
    rw [hy.pol, hz.pol]
    exact (minus_same (m.lost p) m).2.1
  rw [← e]
  exact hy
theorem p_tctick : T_tctick := by
  intro m _
  refine ⟨m, rfl, fun z hz => ⟨(m, z), rfl, rfl, rfl, rfl, rfl, hz, fun y hy => ⟨m.tick, { y with pol := z.pol }, ?_, rfl, rfl, rfl, rfl, rfl, (), trivial, rfl, trivial⟩⟩⟩
  have e : y.pol = z.pol := by rw [hy.pol, hz.pol]; rfl
  rw [← e]
  exact hy
theorem p_tcall : T_tcall := by
  intro m _
  exact ⟨m, rfl, fun z hz => ⟨(m, z), rfl, rfl, rfl, rfl, rfl, hz, fun _ _ => ⟨m, z, hz, rfl, rfl, rfl, rfl, rfl, (), trivial, rfl, rfl, rfl, trivial⟩⟩⟩
theorem p_tcorder : T_tcorder := by
  intro m _
  exact ⟨m, rfl, fun z hz => ⟨(m, z), rfl, rfl, rfl, rfl, rfl, hz, fun _ _ => ⟨m, z, hz, rfl, rfl, rfl, rfl, rfl, (), trivial, (List.length_map ..).symm, rfl, rfl, trivial⟩⟩⟩
theorem p_tcsize : T_tcsize := by
  intro m _
  exact ⟨m, rfl, fun z hz => ⟨(m, z), rfl, rfl, rfl, rfl, rfl, hz, fun _ _ => ⟨m, z, hz, rfl, rfl, rfl, rfl, rfl, (), trivial, rfl, rfl, rfl, trivial⟩⟩⟩
def TB : List (Nat × Con) := (21, NewTB) :: (29, FindTB) :: (30, HitTB) :: (77, InstallTB) :: (86, EvictTB) :: (37, FlushTB) :: (87, TickTB) :: (27, AllTB) :: (28, OrderTB) :: (79, SizeTB) :: P1
theorem GTB : Goods Tryz.prog TB := goods_cons (good_wrapN tbP 0 (good_of_owes hM hP GTB3 Tryz.func21 rfl (o_cnew ▸ p_cnew)) (o_tcnew ▸ p_tcnew)) <| goods_cons (good_wrap tbP (good_of_owes hM hP GTB3 Tryz.func29 rfl (o_cfind ▸ p_cfind)) (o_tcfind ▸ p_tcfind)) <|
  goods_cons (good_wrap tbP (good_of_owes hM hP GTB3 Tryz.func30 rfl (o_chit ▸ p_chit)) (o_tchit ▸ p_tchit)) <| goods_cons (good_wrap tbP (good_of_owes hM hP GTB3 Tryz.func77 rfl (o_cinstall ▸ p_cinstall)) (o_tcinstall ▸ p_tcinstall)) <|
  goods_cons (good_wrap tbP (good_of_owes hM hP GTB3 Tryz.func86 rfl (o_cevict ▸ p_cevict)) (o_tcevict ▸ p_tcevict)) <| goods_cons (good_wrap tbP (good_of_owes hM hP GTB3 Tryz.func37 rfl (o_cflush ▸ p_cflush)) (o_tcflush ▸ p_tcflush)) <|
  goods_cons (good_wrap tbP (good_of_owes hM hP GTB3 Tryz.func87 rfl (o_ctick ▸ p_ctick)) (o_tctick ▸ p_tctick)) <| goods_cons (good_wrap tbP (good_of_owes hM hP GTB3 Tryz.func27 rfl (o_call ▸ p_call)) (o_tcall ▸ p_tcall)) <|
  goods_cons (good_wrap tbP (good_of_owes hM hP GTB3 Tryz.func28 rfl (o_corder ▸ p_corder)) (o_tcorder ▸ p_tcorder)) <| goods_cons (good_wrap tbP (good_of_owes hM hP GTB3 Tryz.func79 rfl (o_csize ▸ p_csize)) (o_tcsize ▸ p_tcsize)) GP1
end Sp
end
section
set_option linter.all false
set_option maxRecDepth 10000
namespace Sp
structure okM (m : Tb) : Prop where
  most : 0 ≤ m.most ∧ m.most ≤ 1024
  len : (m.L.length : Int) ≤ m.most
  good : ∀ x ∈ m.L, goodR x = true
  dis : Dis m.L
  ksk : okK m.sk ∧ m.sk.1.length = 128 ∧ m.sk.2 = 64
theorem okTb.m {m : Tb} {z : TbZ} (h : okTb m z) : okM m := ⟨⟨h.most.2.2.1, h.most.2.2.2⟩, h.n.2, h.good, h.dis, h.ksk⟩
def asZ (m : Tb) : TbZ := ⟨((List.range m.L.length).map fun (j : Nat) => (j : Int), m.most.toNat), ⟨fun i => if 0 ≤ i then m.L[i.toNat]? else none, m.L.length, m.most⟩, ⟨srtR ((List.range m.L.length).map fun (j : Nat) => mkR (rP (m.L.getD j zRt)) (j : Int)), m.k⟩, m.sk, m.pol⟩
theorem okM.z {m : Tb} (h : okM m) : okTb m (asZ m) ∧ (asZ m).sl.pl m.L.length = none := by
  have hget : ∀ i : Int, (asZ m).sl.pl i = if 0 ≤ i then m.L[i.toNat]? else none := fun i => rfl
  have hgn : ∀ j : Nat, (asZ m).sl.pl (j : Int) = m.L[j]? := fun j => by rw [hget, if_pos (by omega)]; rfl
  have hne := dis_ne h.good h.dis
  have hent : ∀ j, j < m.L.length → saneP (rP (m.L.getD j zRt)) = true := fun j hj => good_sane (h.good _ (by rw [List.getD_eq_getElem?_getD, List.getElem?_eq_getElem hj]; exact List.getElem_mem _))
  have hd : ((List.range m.L.length).map fun (j : Nat) => mkR (rP (m.L.getD j zRt)) (j : Int)).Pairwise fun a b => rP a ≠ rP b := by
    rw [List.pairwise_map]
    refine List.Pairwise.imp_of_mem (fun {a b} ha hb hab => ?_) (List.pairwise_lt_range (n := m.L.length))
    have ha := List.mem_range.1 ha
    have hb := List.mem_range.1 hb
    have := List.pairwise_iff_getElem.1 hne a b ha hb hab
    show rP (m.L.getD a zRt) ≠ rP (m.L.getD b zRt)
    rw [List.getD_eq_getElem?_getD, List.getD_eq_getElem?_getD, List.getElem?_eq_getElem ha, List.getElem?_eq_getElem hb]
    exact this
  have hsn : ∀ x ∈ (List.range m.L.length).map fun (j : Nat) => mkR (rP (m.L.getD j zRt)) (j : Int), saneP (rP x) = true := by
    intro x hx
    obtain ⟨j, hj, rfl⟩ := List.mem_map.1 hx
    exact hent j (List.mem_range.1 hj)
  obtain ⟨s1, s2⟩ := srtR_of hsn hd
  refine ⟨⟨rfl, rfl, ⟨?_, rfl, h.most.1, h.most.2⟩, ⟨rfl, h.len⟩, ?_, ?_, ?_, ?_, s1, ?_, ?_, rfl, h.good, h.dis, h.ksk⟩, ?_⟩
  · show ((m.most.toNat : Nat) : Int) = m.most
    have := h.most; omega
  · apply List.ext_getElem?
    intro j
    show (((List.range m.L.length).map fun (j : Nat) => (j : Int)).map (asZ m).sl.pl)[j]? = _
    rw [List.getElem?_map, List.getElem?_map, List.getElem?_map]
    by_cases hj : j < m.L.length
    · rw [List.getElem?_range hj]
      simp only [Option.map_some]
      rw [hgn, List.getElem?_eq_getElem hj]
      rfl
    · rw [List.getElem?_eq_none (by rw [List.length_range]; omega), List.getElem?_eq_none (by omega)]
      rfl
  · intro i
    rw [hget]
    show _ ↔ i ∈ (List.range m.L.length).map fun (j : Nat) => (j : Int)
    rw [List.mem_map]
    constructor
    · intro hi
      split at hi
      · rename_i h0
        have : i.toNat < m.L.length := by
          rcases Nat.lt_or_ge i.toNat m.L.length with k | k
          · exact k
          · rw [List.getElem?_eq_none k] at hi; cases hi
        exact ⟨i.toNat, List.mem_range.2 this, by omega⟩
      · cases hi
    · rintro ⟨j, hj, rfl⟩
      rw [if_pos (by omega)]
      show (m.L[j]?).isSome = true
      rw [List.getElem?_eq_getElem (List.mem_range.1 hj)]
      rfl
  · intro i hi
    obtain ⟨j, hj, rfl⟩ := List.mem_map.1 hi
    have := List.mem_range.1 hj
    have := h.len
    omega
  · show ((List.range m.L.length).map fun (j : Nat) => (j : Int)).Nodup
    unfold List.Nodup
    rw [List.pairwise_map]
    exact (List.nodup_range (n := m.L.length)).imp fun {a b} k e => k (by omega)
  · exact fun r hr => hsn r ((s2 r).1 hr)
  · intro r
    rw [show (asZ m).tr.e = srtR ((List.range m.L.length).map fun (j : Nat) => mkR (rP (m.L.getD j zRt)) (j : Int)) from rfl, s2, List.mem_map]
    constructor
    · rintro ⟨j, hj, rfl⟩
      have hj := List.mem_range.1 hj
      refine ⟨hent j hj, m.L.getD j zRt, ?_, rfl⟩
      show (asZ m).sl.pl (j : Int) = _
      rw [hgn, List.getD_eq_getElem?_getD, List.getElem?_eq_getElem hj]
      rfl
    · rintro ⟨h1, x, h2, h3⟩
      rw [hget] at h2
      split at h2
      · rename_i h0
        have hj : r.2.2.2.2.toNat < m.L.length := by
          rcases Nat.lt_or_ge r.2.2.2.2.toNat m.L.length with k | k
          · exact k
          · rw [List.getElem?_eq_none k] at h2; cases h2
        refine ⟨r.2.2.2.2.toNat, List.mem_range.2 hj, ?_⟩
        have e : m.L.getD r.2.2.2.2.toNat zRt = x := by rw [List.getD_eq_getElem?_getD, h2]; rfl
        rw [e]
        obtain ⟨a, b, c, d, v⟩ := r
        unfold mkR
        rw [h3]
        show (a, b, c, d, ((v.toNat : Nat) : Int)) = (a, b, c, d, v)
        have h0 : 0 ≤ v := h0
        rw [Int.toNat_of_nonneg h0]
      · cases h2
  · rw [hgn]; exact List.getElem?_eq_none (Nat.le_refl _)
theorem okM.drop {m : Tb} (h : okM m) (x : Rt) : okM (m.drop x) := ⟨h.most, by
  have : (m.L.filter fun y => !decide (y = x)).length ≤ m.L.length := List.length_filter_le _ _
  have := h.len
  show (((m.L.filter fun y => !decide (y = x)).length : Nat) : Int) ≤ m.most
  omega, fun y hy => h.good y (List.mem_filter.1 hy).1, List.Pairwise.filter _ h.dis, h.ksk⟩
theorem okM.minus {m : Tb} (h : okM m) : ∀ l : List Rt, okM (m.minus l) := by
  intro l
  induction l generalizing m with
  | nil => exact h
  | cons x l ih => exact ih (h.drop x)
theorem okM.use {m : Tb} (h : okM m) {x : Rt} (hx : x ∈ m.L) : okM (m.use x) := by
  obtain ⟨hz, _⟩ := h.z
  obtain ⟨i, hi⟩ := hz.mem.1 hx
  exact (hz.use hi).m
theorem okM.put {m : Tb} (h : okM m) {x : Rt} (hg : goodR x = true) (hd : ∀ y ∈ m.L, coversP (rP x) (rP y) = false ∧ coversP (rP y) (rP x) = false) (hl : (m.L.length : Int) < m.most) : okM (m.put x) := by
  obtain ⟨hz, hn⟩ := h.z
  exact (hz.put hn ⟨by omega, hl⟩ hg hd hl).m
theorem okM.new (most pol : Int) : okM (Tb.new most pol) := (newTb_ok most pol).m
theorem okM.tick {m : Tb} (h : okM m) : okM m.tick := h.z.1.tick.m
theorem okM.hit {m : Tb} (h : okM m) (a : Ad) : okM (m.hit a) := by
  unfold Tb.hit
  split
  · rename_i x hx
    exact h.use (List.mem_of_find?_eq_some hx)
  · exact h
theorem okM.evict {m : Tb} (h : okM m) (p : Pf) : okM (m.evict p) := by
  unfold Tb.evict
  split
  · exact h.drop _
  · exact h
theorem okM.flush {m : Tb} (h : okM m) (p : Pf) : okM (m.flush p) := h.minus _
theorem okM.inst {m : Tb} (h : okM m) (x : Rt) (soft : Bool) : m.install x soft = (m, false, [], []) ∨
    (goodR x = true ∧ (∀ c ∈ m.L, coversP (rP c) (rP x) = false) ∧ (soft = true → m.insd (rP x) = [] ∧ (m.L.length : Int) < m.most) ∧ okM (m.minus (m.insd (rP x))) ∧ (∀ y ∈ (m.minus (m.insd (rP x))).L, coversP (rP x) (rP y) = false ∧ coversP (rP y) (rP x) = false) ∧
      ((m.most ≤ (m.minus (m.insd (rP x))).L.length ∧ (m.minus (m.insd (rP x))).victim ∈ (m.minus (m.insd (rP x))).L ∧ m.install x soft = (((m.minus (m.insd (rP x))).drop (m.minus (m.insd (rP x))).victim).put x, true, m.insd (rP x), [(m.minus (m.insd (rP x))).victim])) ∨
       (¬ m.most ≤ (m.minus (m.insd (rP x))).L.length ∧ m.install x soft = ((m.minus (m.insd (rP x))).put x, true, m.insd (rP x), [])))) := by
  obtain ⟨hz, _⟩ := h.z
  cases hr : m.refused x with
  | true => left; unfold Tb.install; rw [if_pos hr]
  | false =>
    cases hs : (soft && (!(m.insd (rP x)).isEmpty || decide (m.most ≤ m.L.length))) with
    | true => left; unfold Tb.install; rw [if_neg (by rw [hr]; decide), if_pos hs]
    | false =>
      right
      unfold Tb.refused at hr
      simp only [Bool.or_eq_false_iff, decide_eq_false_iff_not, Bool.not_eq_false'] at hr
      obtain ⟨r1, r2, r3⟩ := hr
      have hnone : ∀ c ∈ m.L, coversP (rP c) (rP x) = false := fun c hc => by
        have := List.any_eq_false.1 r3 c hc
        cases k : coversP (rP c) (rP x) with
        | false => rfl
        | true => exact absurd k this
      have hm1 := h.minus (m.insd (rP x))
      have hmem : ∀ y, y ∈ m.insd (rP x) ↔ y ∈ m.L ∧ coversP (rP x) (rP y) = true := (hz.part fun y => coversP (rP x) (rP y)).1
      have hdis : ∀ y ∈ (m.minus (m.insd (rP x))).L, coversP (rP x) (rP y) = false ∧ coversP (rP y) (rP x) = false := by
        intro y hy
        obtain ⟨y1, y2⟩ := mem_minus.1 hy
        refine ⟨?_, hnone y y1⟩
        cases hc : coversP (rP x) (rP y) with
        | false => rfl
        | true => exact absurd ((hmem y).2 ⟨y1, hc⟩) y2
      have hms := minus_same (m.insd (rP x)) m
      refine ⟨r2, hnone, fun e => ?_, hm1, hdis, ?_⟩
      · rw [e, Bool.true_and, Bool.or_eq_false_iff, decide_eq_false_iff_not] at hs
        refine ⟨?_, by omega⟩
        cases hi : m.insd (rP x) with
        | nil => rfl
        | cons a t => rw [hi] at hs; simp at hs
      · by_cases hc : m.most ≤ (m.minus (m.insd (rP x))).L.length
        · refine .inl ⟨hc, ?_, ?_⟩
          · obtain ⟨hz1, _⟩ := hm1.z
            exact hz1.mem.2 ⟨_, hz1.victim (by have := h.most; omega)⟩
          · unfold Tb.install
            rw [if_neg (by unfold Tb.refused; rw [r2, r3, decide_eq_false r1]; decide), if_neg (by rw [hs]; decide), if_pos (by rw [hms.1]; exact hc)]
        · refine .inr ⟨hc, ?_⟩
          unfold Tb.install
          rw [if_neg (by unfold Tb.refused; rw [r2, r3, decide_eq_false r1]; decide), if_neg (by rw [hs]; decide), if_neg (by rw [hms.1]; exact hc)]
theorem okM.install {m : Tb} (h : okM m) (x : Rt) (soft : Bool) : okM (m.install x soft).1 := by
  rcases h.inst x soft with e | ⟨hg, _, _, hm1, hd, h2⟩
  · rw [e]; exact h
  · have hms := minus_same (m.insd (rP x)) m
    have hl := hm1.len
    rcases h2 with ⟨hc, hv, e⟩ | ⟨hc, e⟩
    · rw [e]
      have hdl : ((m.minus (m.insd (rP x))).drop (m.minus (m.insd (rP x))).victim).L.length + 1 = (m.minus (m.insd (rP x))).L.length := filter_ne_len (dis_nodup hm1.good hm1.dis) hv
      refine (hm1.drop _).put hg (fun y hy => hd y (mem_drop.1 hy).1) ?_
      show (((m.minus (m.insd (rP x))).drop (m.minus (m.insd (rP x))).victim).L.length : Int) < (m.minus (m.insd (rP x))).most
      omega
    · rw [e]
      exact hm1.put hg hd (by rw [hms.1]; omega)
theorem put_len {m : Tb} (x : Rt) (hx : x ∉ m.L) : (m.put x).L.length = m.L.length + 1 := by
  show (x :: m.L.filter (fun y => !decide (y = x))).length = _
  rw [List.filter_eq_self.2 fun y hy => by
    have : y ≠ x := fun e => hx (e ▸ hy)
    simp [this]]
  rfl
theorem okM.small_minus {m : Tb} (h : okM m) (f : Rt → Bool) : (m.minus (srtR (m.L.filter f))).k + (m.minus (srtR (m.L.filter f))).L.length = m.k + m.L.length := (h.z.1.minus_small f).1
theorem okM.small_install {m : Tb} (h : okM m) (x : Rt) (soft : Bool) : (m.install x soft).1.k + (m.install x soft).1.L.length ≤ m.k + m.L.length + 2 := by
  rcases h.inst x soft with e | ⟨hg, _, _, hm1, hd, h2⟩
  · rw [e]; exact Nat.le_add_right _ _
  · have hs : (m.minus (m.insd (rP x))).k + (m.minus (m.insd (rP x))).L.length = m.k + m.L.length := h.small_minus _
    have nx : ∀ m2 : Tb, (∀ y ∈ m2.L, y ∈ (m.minus (m.insd (rP x))).L) → x ∉ m2.L := fun m2 hm hx => by
      have := (hd x (hm x hx)).1
      rw [covers_self (good_sane hg)] at this
      cases this
    rcases h2 with ⟨hc, hv, e⟩ | ⟨hc, e⟩
    · rw [e]
      have hdl : ((m.minus (m.insd (rP x))).drop (m.minus (m.insd (rP x))).victim).L.length + 1 = (m.minus (m.insd (rP x))).L.length := filter_ne_len (dis_nodup hm1.good hm1.dis) hv
      have := put_len x (nx ((m.minus (m.insd (rP x))).drop (m.minus (m.insd (rP x))).victim) fun y hy => (mem_drop.1 hy).1)
      show (m.minus (m.insd (rP x))).k + 1 + 1 + (((m.minus (m.insd (rP x))).drop (m.minus (m.insd (rP x))).victim).put x).L.length ≤ _
      omega
    · rw [e]
      have := put_len x (nx (m.minus (m.insd (rP x))) fun y hy => hy)
      show (m.minus (m.insd (rP x))).k + 1 + ((m.minus (m.insd (rP x))).put x).L.length ≤ _
      omega
theorem okM.small_use {m : Tb} (h : okM m) {x : Rt} (hx : x ∈ m.L) : (m.use x).L.length = m.L.length := by
  have := filter_ne_len (dis_nodup h.good h.dis) hx
  show (x :: m.L.filter (fun y => !decide (y = x))).length = _
  rw [List.length_cons]
  omega
/-! ### one thing that is done -/
abbrev Ac := Int × Rt
def Tb.act (m : Tb) (o : Ac) : Tb × Bool × List Rt × List Rt :=
  if o.1 = 0 ∨ o.1 = 1 then m.install o.2 (decide (o.1 = 1))
  else if o.1 = 2 then (m.hit (pA (rP o.2)), (m.find (pA (rP o.2))).isSome, [], [(m.find (pA (rP o.2))).getD zRt])
  else if o.1 = 3 then (m.evict (rP o.2), (m.has (rP o.2)).isSome, [], [])
  else if o.1 = 4 then (m.flush (rP o.2), false, [], m.lost (rP o.2))
  else (m.tick, false, [], [])
theorem okM.act {m : Tb} (h : okM m) (o : Ac) : okM (m.act o).1 := by
  unfold Tb.act
  split
  · exact h.install _ _
  split
  · exact h.hit _
  split
  · exact h.evict _
  split
  · exact h.flush _
  · exact h.tick
theorem okM.small_act {m : Tb} (h : okM m) (o : Ac) : (m.act o).1.k + (m.act o).1.L.length ≤ m.k + m.L.length + 2 := by
  unfold Tb.act
  split
  · exact h.small_install _ _
  split
  · show (m.hit (pA (rP o.2))).k + (m.hit (pA (rP o.2))).L.length ≤ _
    unfold Tb.hit
    split
    · rename_i x hx
      have := h.small_use (List.mem_of_find?_eq_some hx)
      show m.k + (m.use x).L.length ≤ _
      omega
    · omega
  split
  · show (m.evict (rP o.2)).k + (m.evict (rP o.2)).L.length ≤ _
    unfold Tb.evict
    split
    · rename_i x hx
      have := filter_ne_len (dis_nodup h.good h.dis) (List.mem_of_find?_eq_some hx)
      show m.k + 1 + (m.L.filter fun y => !decide (y = x)).length ≤ _
      omega
    · omega
  split
  · have := h.small_minus fun r => coversP (rP o.2) (rP r) || coversP (rP r) (rP o.2)
    show (m.minus (srtR _)).k + (m.minus (srtR _)).L.length ≤ _
    omega
  · show m.k + m.L.length ≤ _
    omega
def Tb.acts (m : Tb) (l : List Ac) : Tb := l.foldl (fun m o => (m.act o).1) m
theorem acts_snoc (m : Tb) (l : List Ac) (o : Ac) : m.acts (l ++ [o]) = ((m.acts l).act o).1 := by unfold Tb.acts; rw [List.foldl_append]; rfl
theorem okM.acts {m : Tb} (h : okM m) : ∀ l : List Ac, okM (m.acts l) ∧ (m.acts l).k + (m.acts l).L.length ≤ m.k + m.L.length + 2 * l.length := by
  intro l
  induction l generalizing m with
  | nil => exact ⟨h, Nat.le_refl _⟩
  | cons o l ih =>
    obtain ⟨h1, h2⟩ := ih (h.act o)
    have := h.small_act o
    refine ⟨h1, ?_⟩
    show ((m.act o).1.acts l).k + ((m.act o).1.acts l).L.length ≤ m.k + m.L.length + 2 * (l.length + 1)
    omega
end Sp
end
section
set_option linter.all false
namespace Sp
open Go Go.Proofs Sx Go.Proofs.YthnhbnakpmkppaaGreat.Ma
def bl (n : Nat) : Nat := if n = 0 then 0 else n.log2 + 1
def tab8 : List Int := [0, 1, 2, 2, 3, 3, 3, 3, 4, 4, 4, 4, 4, 4, 4, 4, 5, 5, 5, 5, 5, 5, 5, 5, 5, 5, 5, 5, 5, 5, 5, 5, 6, 6, 6, 6, 6, 6, 6, 6, 6, 6, 6, 6, 6, 6, 6, 6, 6, 6, 6, 6, 6, 6, 6, 6, 6, 6, 6, 6, 6, 6, 6, 6, 7, 7, 7, 7, 7, 7, 7, 7, 7, 7, 7, 7, 7, 7, 7, 7, 7, 7, 7, 7, 7, 7, 7, 7, 7, 7, 7, 7, 7, 7, 7, 7, 7, 7, 7, 7, 7, 7, 7, 7, 7, 7, 7, 7, 7, 7, 7, 7, 7, 7, 7, 7, 7, 7, 7, 7, 7, 7, 7, 7, 7, 7, 7, 7, 8, 8, 8, 8, 8, 8, 8, 8, 8, 8, 8, 8, 8, 8, 8, 8, 8, 8, 8, 8, 8, 8, 8, 8, 8, 8, 8, 8, 8, 8, 8, 8, 8, 8, 8, 8, 8, 8, 8, 8, 8, 8, 8, 8, 8, 8, 8, 8, 8, 8, 8, 8, 8, 8, 8, 8, 8, 8, 8, 8, 8, 8, 8, 8, 8, 8, 8, 8, 8, 8, 8, 8, 8, 8, 8, 8, 8, 8, 8, 8, 8, 8, 8, 8, 8, 8, 8, 8, 8, 8, 8, 8, 8, 8, 8, 8, 8, 8, 8, 8, 8, 8, 8, 8, 8, 8, 8, 8, 8, 8, 8, 8, 8, 8, 8, 8, 8, 8, 8, 8, 8, 8, 8, 8, 8, 8, 8, 8]
def LenBZ : Con := .pure Int (fun x => [.i .u64 x]) wfW fun x => .i .i64 (bl x.toNat : Int)
def LzZ : Con := .pure Int (fun x => [.i .u64 x]) wfW fun x => .i .i64 (64 - (bl x.toNat : Int))
def lzX (x y : Int) : Int := 64 - (bl (bits .xor .u64 x y).toNat : Int)
def commonI (a b : Ad) : Int := if a.2.2 = b.2.2 then min (if lzX (canA a).1 (canA b).1 = 64 then lzX (canA a).1 (canA b).1 + lzX (canA a).2.1 (canA b).2.1 else lzX (canA a).1 (canA b).1) (wd a.2.2) else 0
def CommonZ : Con := .pure (Ad × Ad) (fun x => [.agg (adV x.1), .agg (adV x.2)]) (fun x => wfA x.1 ∧ wfA x.2) fun x => .i .i64 (commonI x.1 x.2)
def apartP (p q : Pf) : Bool := saneP p && (saneP q && (!coversP p q && !coversP q p))
def ApartZ : Con := .pure (Pf × Pf) (fun x => [.agg (pfV x.1), .agg (pfV x.2)]) (fun x => wfP x.1 ∧ wfP x.2) fun x => .b (apartP x.1 x.2)
def A0 : List (Nat × Con) := (243, LenBZ) :: P1
def A1 : List (Nat × Con) := (181, LzZ) :: A0
def A2 : List (Nat × Con) := (102, CommonZ) :: A1
def LqA : FuncId → Nat → Lan
  | _, _ => .none
end Sp
end
