/- Laws of layer 4 kept. -/
import Derived.Test.YtcilcmbailoeaaaSpL04t
import Derived.ProofKit
set_option linter.all false
set_option maxRecDepth 10000
namespace Sp
open Go Go.Proofs Sx Go.Proofs.Ytcilcmbailoeaaa.Ma
theorem ifB_ne {p : Prop} [Decidable p] {A B : Prop} (h : p) (hB : B) : ifB (!decide p) A B := ifB_nd (fun k => absurd h k) fun _ => hB
theorem ifB_eq {p : Prop} [Decidable p] {A B : Prop} (h : p) (hA : A) : ifB (decide p) A B := ifB_d (fun _ => hA) fun k => absurd h k
theorem ifB_nb {c : Bool} {A B : Prop} (h : c = true) (hB : B) : ifB (!c) A B := by subst h; exact hB
theorem ifB_tb {c : Bool} {A B : Prop} (h : c = true) (hA : A) : ifB c A B := by subst h; exact hA
theorem p_awake : T_awake := by
  intro _ _
  have e1 : fromE [10, 0, 0, 0] = ((720575940379279360, 0, false), 0) := by decide +kernel
  have e2 : ofPf (720575940379279360, 0, false) 8 = (720575940379279360, 0, false, 8) := by decide +kernel
  have e3 : putP (720575940379279360, 0, false, 8) = [4, 8, 10] := by decide +kernel
  have e4 : getP [4, 8, 10] = ((720575940379279360, 0, false, 8), 3, 0) := by decide +kernel
  refine ⟨[10, 0, 0, 0], rfl, rfl, fun x hx => ?_, fun _ _ => ?_⟩
  · have hx : x ∈ [10, 0, 0, 0] := hx
    simp only [List.mem_cons, List.not_mem_nil, or_false] at hx
    omega
  rw [e1]
  refine ⟨((720575940379279360, 0, false), 8), rfl, rfl, rfl, rfl, ⟨⟨by decide, by decide⟩, by decide, by decide⟩, fun _ _ => ?_⟩
  rw [e2]
  refine ⟨([], (720575940379279360, 0, false, 8)), rfl, rfl, rfl, rfl, rfl, rfl, ⟨by decide, ⟨by decide, by decide⟩, by decide, by decide⟩, fun _ _ => ?_⟩
  rw [List.nil_append, e3]
  refine ⟨[4, 8, 10], rfl, rfl, ⟨fun x hx => ?_, by decide⟩, fun _ _ => ?_⟩
  · have hx : x ∈ [4, 8, 10] := hx
    simp only [List.mem_cons, List.not_mem_nil, or_false] at hx
    omega
  rw [e4]
  exact ifB_eq rfl (ifB_eq rfl (ifB_eq rfl (ifB_eq rfl ⟨(), trivial, by decide, trivial⟩)))
theorem GL04 : Goods Try.prog L04 := goods_cons (good_of_owes hM hP GR6 Try.func42 rfl (o_awake ▸ p_awake)) GR6
theorem cmpR (a b : Rt) : (decide (a.1 = b.1) && (decide (a.2.1 = b.2.1) && (decide (a.2.2.1 = b.2.2.1) && (decide (a.2.2.2.1 = b.2.2.2.1) && decide (a.2.2.2.2 = b.2.2.2.2))))) = decide (a = b) := by
  rw [Bool.eq_iff_iff]
  simp only [Bool.and_eq_true, decide_eq_true_eq, Prod.ext_iff]
theorem cmpP (a b : Pf) : (decide (a.1 = b.1) && (decide (a.2.1 = b.2.1) && (decide (a.2.2.1 = b.2.2.1) && decide (a.2.2.2 = b.2.2.2)))) = decide (a = b) := by
  rw [Bool.eq_iff_iff]
  simp only [Bool.and_eq_true, decide_eq_true_eq, Prod.ext_iff]
theorem okB_putR (r : Rt) : okB (putR r) := by
  cases hr : goodR r with
  | false => rw [putR_bad hr]; intro x hx; simp at hx
  | true =>
    have := (getAll_put [r] (by simp [hr])).2
    have e : putAllL [r] = putR r := by simp [putAllL]
    rwa [e] at this
theorem p_is : T_is := by
  rintro ⟨b, r⟩ ⟨hb, hr⟩
  have hb : okB b := hb
  dsimp only at hr ⊢
  refine ⟨(), trivial, fun _ _ => ifB_d (fun h => ⟨(), trivial, rfl, trivial⟩) fun h => ?_⟩
  have hl : b.length ≤ 1000000 := by omega
  have gl : (getAllL b).1.length ≤ 1000000000 := by
    by_cases h0 : (getAllL b).2 = 0
    · obtain ⟨e, hg⟩ := put_getAll _ hb (Nat.le_refl _) h0
      have : ∀ l : List Rt, (∀ q ∈ l, goodR q = true) → l.length ≤ (putAllL l).length := by
        intro l
        induction l with
        | nil => intro _; simp
        | cons q l ih =>
          intro hq
          have := putR_length (hq q (by simp))
          have e : putAllL (q :: l) = putR q ++ putAllL l := rfl
          have := ih fun q' hq' => hq q' (by simp [hq'])
          rw [e, List.length_append, List.length_cons]
          omega
      have := this _ fun q hq => (hg q hq).1
      rw [e] at this
      omega
    · rw [getAll_bad _ hb (Nat.le_refl _) h0]; simp
  refine ⟨b, rfl, rfl, ⟨hb, hl⟩, fun _ _ => ⟨b, rfl, rfl, ⟨hb, hl⟩, fun _ _ => ⟨b, rfl, rfl, ⟨hb, hl⟩, fun _ _ => ⟨b, rfl, rfl, ⟨hb, hl⟩, fun _ _ => ⟨b, rfl, rfl, ⟨hb, hl⟩, fun _ _ => ⟨b, rfl, rfl, ⟨hb, hl⟩, fun _ _ => ?_⟩⟩⟩⟩⟩⟩
  refine ifB_nb (by simp) (ifB_ne rfl (ifB_ne rfl (ifB_nb (by simp) (ifB_ne rfl (ifB_ne rfl ⟨((getAllL b).1, (getAllL b).1), rfl, rfl, rfl, rfl, ⟨gl, gl⟩, fun _ _ => ifB_ne rfl (ifB_ne rfl ?_)⟩)))))
  exact ⟨(b, rP r), rfl, rfl, rfl, rfl, rfl, rfl, ⟨hl, hr⟩, fun _ _ => ⟨(b, rP r), rfl, rfl, rfl, rfl, rfl, rfl, ⟨hl, hr⟩, fun _ _ => ifB_eq rfl ⟨(b, r), rfl, rfl, rfl, rfl, rfl, rfl, rfl, ⟨hl, hr⟩, fun _ _ => ⟨(b, r), rfl, rfl, rfl, rfl, rfl, rfl, rfl, ⟨hl, hr⟩, fun _ _ => ifB_eq rfl ⟨r, rfl, rfl, rfl, rfl, rfl, hr, fun _ _ => ⟨r, rfl, rfl, rfl, rfl, rfl, hr, fun _ _ => ⟨(), trivial, by simp, trivial⟩⟩⟩⟩⟩⟩⟩
theorem p_back : T_back := by
  rintro ⟨r, more⟩ ⟨hr, hm⟩
  have hm : okB more := hm
  have hr : wfR r := hr
  dsimp only
  have hlr := putR_length_le r
  have bad : ∀ (s : Rt), s = r → ifB (goodR s) (∃ y : Unit, True ∧ true = true ∧ True) (∃ x_4 : List Int × Rt, 0 = x_4.1.length ∧ r.1 = x_4.2.1 ∧ r.2.1 = x_4.2.2.1 ∧ r.2.2.1 = x_4.2.2.2.1 ∧ r.2.2.2.1 = x_4.2.2.2.2.1 ∧ r.2.2.2.2 = x_4.2.2.2.2.2 ∧ [] = x_4.1 ∧ (x_4.1.length ≤ most ∧ wfR x_4.2) ∧ ∀ y : Unit, True → ∃ y : Unit, True ∧ decide (((x_4.1 ++ putR x_4.2).length : Int) = 0) = true ∧ True) := by
    rintro s rfl
    refine ifB_b (fun h => ⟨(), trivial, rfl, trivial⟩) fun h => ⟨([], s), rfl, rfl, rfl, rfl, rfl, rfl, rfl, ⟨Nat.zero_le 1000000, hr⟩, fun _ _ => ⟨(), trivial, ?_, trivial⟩⟩
    rw [putR_bad h]
    rfl
  refine ⟨(), trivial, fun _ _ => ifB_d (fun h => ⟨r, rfl, rfl, rfl, rfl, rfl, hr, fun _ _ => bad r rfl⟩) fun h => ⟨r, rfl, rfl, rfl, rfl, rfl, hr, fun _ _ => ?_⟩⟩
  refine ifB_b (fun hg => ⟨r, rfl, rfl, rfl, rfl, rfl, hr, fun _ _ => bad r rfl⟩) fun hg => ?_
  have hg : goodR r = true := by simpa using hg
  have hs := (goodR_iff.1 hg).2.2
  have hput : putR r = putP (rP r) ++ [r.2.2.2.2 / 256, r.2.2.2.2 % 256] := by unfold putR; rw [if_pos hg]
  have hlen := putR_length hg
  have hlp := putP_length hs
  have hlp : (putP (rP r)).length = 2 + longZ r.2.2.2.1 := hlp
  have e1 := getR_putR hg more
  have e2 : getP (putR r ++ more) = (rP r, 2 + (longZ r.2.2.2.1 : Int), 0) := by rw [hput, List.append_assoc]; exact get_put hs _
  have e3 := getR_short hg
  have e4 := get_short hs
  have ok := okB_putR r
  refine ⟨([], r), rfl, rfl, rfl, rfl, rfl, rfl, rfl, ⟨Nat.zero_le 1000000, hr⟩, fun _ _ => ⟨(more, r), rfl, rfl, rfl, rfl, rfl, rfl, rfl, ⟨by show _ ≤ 1000000; simp only; omega, hr⟩, fun _ _ => ?_⟩⟩
  simp only [List.nil_append, Nat.zero_add]
  refine ⟨⟨by omega, by omega⟩, ⟨by omega, by omega⟩, putR r ++ more, by simp, rfl, ⟨okB_append ok hm, by show _ ≤ 1000000; rw [List.length_append]; omega⟩, fun _ _ => ⟨putR r ++ more, by simp, rfl, ⟨okB_append ok hm, by show _ ≤ 1000000; rw [List.length_append]; omega⟩, fun _ _ => ?_⟩⟩
  rw [e1, e2]
  refine ifB_nb (by simp) (ifB_ne rfl (ifB_ne rfl (ifB_nb (by simp) (ifB_ne rfl ⟨by simp only; omega, ifB_ne (by simp only; omega) (ifB_d (fun h4 => by omega) fun _ => ?_)⟩))))
  have t1 : (((putR r).length : Int) - 1).toNat = (putR r).length - 1 := by omega
  have t2 : (2 + (longZ r.2.2.2.1 : Int) - 1).toNat = (putP (rP r)).length - 1 := by omega
  have t3 : (putR r).take ((putP (rP r)).length - 1) = (putP (rP r)).take ((putP (rP r)).length - 1) := by rw [hput, List.take_append_of_le_length (by omega)]
  dsimp only
  rw [t1, t2, t3]
  simp only [List.drop_zero, Nat.sub_zero]
  refine ⟨by omega, by omega, _, ?_, rfl, ⟨okB_take ok _, ?_⟩, fun _ _ => ⟨by omega, by omega, _, ?_, rfl, ⟨?_, ?_⟩, fun _ _ => ?_⟩⟩
  · rw [List.length_take]; omega
  · show _ ≤ 1000000
    rw [List.length_take]; omega
  · rw [List.length_take]; omega
  · rw [← t3]; exact okB_take ok _
  · show _ ≤ 1000000
    rw [List.length_take]; omega
  · rw [e3, e4]
    exact ifB_eq rfl (ifB_eq rfl ⟨by omega, (), trivial, by simp, trivial⟩)
theorem p_apart : T_apart := by
  rintro ⟨r, s⟩ ⟨hr, hs⟩
  have hr : wfR r := hr
  have hs : wfR s := hs
  dsimp only
  refine ⟨(), trivial, fun _ _ => ⟨r, rfl, rfl, rfl, rfl, rfl, hr, fun _ _ => ifB_b (fun h => ⟨(), trivial, rfl, trivial⟩) fun h => ⟨s, rfl, rfl, rfl, rfl, rfl, hs, fun _ _ => ifB_b (fun h => ⟨(), trivial, rfl, trivial⟩) fun h' => ?_⟩⟩⟩
  have h : goodR r = true := by simpa using h
  have h' : goodR s = true := by simpa using h'
  refine ⟨([], r), rfl, rfl, rfl, rfl, rfl, rfl, rfl, ⟨Nat.zero_le 1000000, hr⟩, fun _ _ => ⟨([], s), rfl, rfl, rfl, rfl, rfl, rfl, rfl, ⟨Nat.zero_le 1000000, hs⟩, fun _ _ => ?_⟩⟩
  simp only [List.nil_append, List.drop_zero, cmpR]
  have inj : putR r = putR s ↔ r = s := ⟨fun e => putR_inj h h' (m := []) (n := []) (by rw [e]), fun e => by rw [e]⟩
  refine ifB_eq (by simp only [decide_eq_decide]; exact inj) ⟨⟨by omega, by omega⟩, ⟨by omega, by omega⟩, (), trivial, ?_, trivial⟩
  rw [decide_eq_true_eq, decide_eq_decide]
  constructor
  · intro e
    generalize hn : (min ((putR r).length : Int) ((putR s).length : Int)).toNat = n at e
    have e1 := List.take_append_drop n (putR r)
    have e2 := List.take_append_drop n (putR s)
    by_cases hc : (putR r).length ≤ (putR s).length
    · have hn : n = (putR r).length := by omega
      rw [List.take_of_length_le (l := putR r) (by omega)] at e
      rw [← e] at e2
      exact putR_inj h h' (m := (putR s).drop n) (n := []) (by rw [e2, List.append_nil])
    · have hn : n = (putR s).length := by omega
      rw [List.take_of_length_le (l := putR s) (by omega)] at e
      rw [e] at e1
      exact putR_inj h h' (m := []) (n := (putR r).drop n) (by rw [List.append_nil, e1])
  · rintro rfl
    rfl
theorem p_all : T_all := by
  rintro ⟨l, b⟩ ⟨hw, hb⟩
  have hw : ∀ r ∈ l, wfR r := hw
  have hb : okB b := hb
  dsimp only
  refine ⟨(), trivial, fun _ _ => ifB_d (fun h => ⟨(), trivial, rfl, trivial⟩) fun h1 => ifB_d (fun h => ⟨(), trivial, rfl, trivial⟩) fun h2 => ?_⟩
  refine ⟨fun q => ∃ k : Nat, q.1 = k ∧ k ≤ l.length ∧ q.2 = (l.take k).filter goodR, fun q => (l.length - q.1).toNat, ⟨(0, []), ⟨0, rfl, by omega, by simp⟩, rfl, rfl, rfl, trivial⟩, ?_⟩
  rintro ⟨_, _⟩ ⟨k, rfl, hk, rfl⟩
  dsimp only
  refine ifB_d (fun hlt => ?_) fun hge => ?_
  · have hlt : k < l.length := by omega
    have hm : l.getD k (0, 0, false, 0, 0) ∈ l := by rw [List.getD_eq_getElem?_getD, List.getElem?_eq_getElem hlt]; exact List.getElem_mem hlt
    have hfl : ((l.take k).filter goodR).length ≤ 60 := by have := List.length_filter_le goodR (l.take k); rw [List.length_take] at this; omega
    have hs : l.take (k + 1) = l.take k ++ [l.getD k (0, 0, false, 0, 0)] := by
      rw [List.take_succ_eq_append_getElem hlt, List.getD_eq_getElem?_getD, List.getElem?_eq_getElem hlt]; rfl
    rw [Int.toNat_natCast]
    generalize l.getD k (0, 0, false, 0, 0) = q at *
    refine ⟨by omega, q, rfl, rfl, rfl, rfl, rfl, hw _ hm, fun _ _ => ifB_b (fun hg => ⟨by omega, ⟨by simp; omega, by simp; omega⟩, by omega, ((k : Int) + 1, (l.take (k + 1)).filter goodR), ⟨k + 1, by simp only; omega, by omega, rfl⟩, by simp only; omega, rfl, ?_, ?_, trivial⟩) fun hg => ⟨by omega, ((k : Int) + 1, (l.take (k + 1)).filter goodR), ⟨k + 1, by simp only; omega, by omega, rfl⟩, by simp only; omega, rfl, ?_, ?_, trivial⟩⟩
    · rw [hs, List.filter_append, List.length_append]
      simp [List.filter_cons, hg]
    · rw [hs, List.filter_append]
      simp [List.filter_cons, hg]
    · rw [hs, List.filter_append, List.length_append]
      simp [List.filter_cons, hg]
    · rw [hs, List.filter_append]
      simp [List.filter_cons, hg]
  · rw [List.take_of_length_le (by omega)]
    have hpf : putAllL l = putAllL (l.filter goodR) := by
      have : ∀ l : List Rt, putAllL l = putAllL (l.filter goodR) := by
        intro l
        induction l with
        | nil => rfl
        | cons r l ih =>
          have e : putAllL (r :: l) = putR r ++ putAllL l := rfl
          cases hr : goodR r with
          | true =>
            rw [e, List.filter_cons, hr, if_pos rfl, ih]
            rfl
          | false =>
            rw [e, List.filter_cons, hr, putR_bad hr, ih]
            simp
      exact this l
    obtain ⟨g1, g2⟩ := getAll_put (l.filter goodR) fun r hr => (List.mem_filter.1 hr).2
    rw [← hpf] at g1 g2
    have hpl := putAllL_le l
    have hfl := List.length_filter_le goodR l
    refine ⟨l, rfl, rfl, ⟨by omega, hw⟩, fun _ _ => ⟨putAllL l, rfl, rfl, ⟨g2, by show _ ≤ 1000000; omega⟩, fun _ _ => ⟨b, rfl, rfl, ⟨hb, by show _ ≤ 1000000; omega⟩, fun _ _ => ?_⟩⟩⟩
    rw [g1]
    have fin : ∃ x : List Rt × List Rt, (l.filter goodR).length = x.1.length ∧ (l.filter goodR).length = x.2.length ∧ l.filter goodR = x.1 ∧ l.filter goodR = x.2 ∧ (x.1.length ≤ 1000000000 ∧ x.2.length ≤ 1000000000) ∧ ∀ y : Unit, True → ∃ y : Unit, True ∧ decide (x.1 = x.2) = true ∧ True :=
      ⟨(l.filter goodR, l.filter goodR), rfl, rfl, rfl, rfl, ⟨by simp only; omega, by simp only; omega⟩, fun _ _ => ⟨(), trivial, by simp, trivial⟩⟩
    refine ifB_d (fun h0 => ?_) fun h0 => ?_
    · obtain ⟨e, hg⟩ := put_getAll _ hb (Nat.le_refl _) h0
      have hlen : ∀ l : List Rt, (∀ q ∈ l, goodR q = true) → l.length ≤ (putAllL l).length := by
        intro l
        induction l with
        | nil => intro _; simp
        | cons q l ih =>
          intro hq
          have := putR_length (hq q (by simp))
          have e : putAllL (q :: l) = putR q ++ putAllL l := rfl
          have := ih fun q' hq' => hq q' (by simp [hq'])
          rw [e, List.length_append, List.length_cons]
          omega
      have := hlen _ fun q hq => (hg q hq).1
      rw [e] at this
      exact ⟨(getAllL b).1, rfl, rfl, ⟨by omega, fun r hr => (hg r hr).2⟩, fun _ _ => ifB_ne e (ifB_ne h0 (ifB_eq rfl fin))⟩
    · refine ifB_nd (fun _ => ifB_ne ?_ (ifB_eq rfl fin)) fun h => absurd h h0
      rw [getAll_bad _ hb (Nat.le_refl _) h0]
      rfl
theorem wf_rt {r : Rt} (h : ∀ l ∈ leafs rtK r, l.wf) : wfR r := by
  obtain ⟨hi, lo, v6, n, hop⟩ := r
  have h1 : (L.i .u64 hi).wf := h _ (by simp [leafs, Kd.leaf])
  have h2 : (L.i .u64 lo).wf := h _ (by simp [leafs, Kd.leaf])
  simp only [L.wf, Sx.lo, Sx.hi] at h1 h2
  exact ⟨⟨h1.1, by show hi < _; omega⟩, h2.1, by show lo < _; omega⟩
theorem wf_rts {l : List Rt} (h : wfT rtK l) : ∀ r ∈ l, wfR r := fun r hr => wf_rt (h r hr)
theorem wf_by {b : List Int} (h : wfT u8K b) : okB b := fun x hx => by
  have h1 : (L.i .u8 x).wf := h x hx _ (by simp [leafs, Kd.leaf])
  simpa [L.wf, Sx.lo, Sx.hi] using h1
theorem g_back : Good Try.prog 9 WireBackL := good_of_owes hM hP GL04 Try.func9 rfl (o_back ▸ p_back)
theorem g_apart : Good Try.prog 7 WireApartL := good_of_owes hM hP GL04 Try.func7 rfl (o_apart ▸ p_apart)
theorem g_all : Good Try.prog 20 WireAllL := good_of_owes hM hP GL04 Try.func20 rfl (o_all ▸ p_all)
theorem g_is : Good Try.prog 19 WireIsL := good_of_owes hM hP GL04 Try.func19 rfl (o_is ▸ p_is)
theorem law_back (r : Rt) (b : List Int) (h : ∀ l ∈ leafs rtK r, l.wf) (k : wfT u8K b) : WireBackL.pre (r, b) := ⟨wf_rt h, wf_by k⟩
theorem law_apart (r s : Rt) (h : ∀ l ∈ leafs rtK r, l.wf) (k : ∀ l ∈ leafs rtK s, l.wf) : WireApartL.pre (r, s) := ⟨wf_rt h, wf_rt k⟩
theorem law_all (l : List Rt) (b : List Int) (h : wfT rtK l) (k : wfT u8K b) : WireAllL.pre (l, b) := ⟨wf_rts h, wf_by k⟩
theorem law_is (b : List Int) (r : Rt) (k : wfT u8K b) (h : ∀ l ∈ leafs rtK r, l.wf) : WireIsL.pre (b, r) := ⟨wf_by k, wf_rt h⟩
-- LAW WireBack kedgelaw04.WireBack Sp.g_back Sp.law_back
-- LAW WireApart kedgelaw04.WireApart Sp.g_apart Sp.law_apart
-- LAW WireAll kedgelaw04.WireAll Sp.g_all Sp.law_all
-- LAW WireIs kedgelaw04.WireIs Sp.g_is Sp.law_is
end Sp
