import Derived.ProofKit
import Derived.Test.YthnhbnakpmkppaaGreatMgTableGoes17
import Derived.Test.YthnhbnakpmkppaaGreatMgTableGoes20
section
set_option linter.all false
set_option maxRecDepth 10000
namespace Sp
structure Tb where
  L : List Rt
  most : Int
  pol : Int
  sk : Sk
  k : Nat
structure TbZ where
  rc : RcM
  sl : SlM
  tr : TrM
  sk : Sk
  pol : Int
def Dis (L : List Rt) : Prop := L.Pairwise fun a b => coversP (rP a) (rP b) = false ∧ coversP (rP b) (rP a) = false
structure okTb (m : Tb) (z : TbZ) : Prop where
  pol : z.pol = m.pol
  sk : z.sk = m.sk
  most : (z.rc.2 : Int) = m.most ∧ z.sl.most = m.most ∧ 0 ≤ m.most ∧ m.most ≤ 1024
  n : z.sl.n = m.L.length ∧ (m.L.length : Int) ≤ m.most
  ord : z.rc.1.map z.sl.pl = m.L.map some
  used : ∀ i, (z.sl.pl i).isSome = true ↔ i ∈ z.rc.1
  rng : ∀ i ∈ z.rc.1, 0 ≤ i ∧ i < m.most
  nd : z.rc.1.Nodup
  srt : Srt z.tr.e
  snn : Snn z.tr.e
  tr : ∀ r, r ∈ z.tr.e ↔ saneP (rP r) = true ∧ ∃ x, z.sl.pl r.2.2.2.2 = some x ∧ rP x = rP r
  k : z.tr.k = m.k
  good : ∀ x ∈ m.L, goodR x = true
  dis : Dis m.L
  ksk : okK m.sk ∧ m.sk.1.length = 128 ∧ m.sk.2 = 64
def Tb.drop (m : Tb) (x : Rt) : Tb := { m with L := m.L.filter fun y => !decide (y = x), k := m.k + 1 }
def Tb.minus (m : Tb) (l : List Rt) : Tb := l.foldl Tb.drop m
theorem covers_self {p : Pf} (h : saneP p = true) : coversP p p = true := covers_iff.2 ⟨h, h, rfl, List.prefix_refl _⟩
theorem good_sane {x : Rt} (h : goodR x = true) : saneP (rP x) = true := (goodR_iff.1 h).2.2
theorem dis_ne {L : List Rt} (hg : ∀ x ∈ L, goodR x = true) (h : Dis L) : L.Pairwise fun a b => rP a ≠ rP b := by
  refine List.Pairwise.imp_of_mem (fun {a b} ha hb k e => ?_) h
  have := k.1
  rw [e, covers_self (good_sane (hg b hb))] at this
  cases this
theorem dis_nodup {L : List Rt} (hg : ∀ x ∈ L, goodR x = true) (h : Dis L) : L.Nodup := (dis_ne hg h).imp fun {a b} k e => k (by rw [e])
theorem pairwise_sym {α : Type} {R : α → α → Prop} (hs : ∀ a b, R a b → R b a) : ∀ {l : List α}, l.Pairwise R → ∀ a ∈ l, ∀ b ∈ l, a ≠ b → R a b
  | [], _, a, ha, _, _, _ => by cases ha
  | x :: l, h, a, ha, b, hb, hne => by
    obtain ⟨h1, h2⟩ := List.pairwise_cons.1 h
    rcases List.mem_cons.1 ha with ea | ha <;> rcases List.mem_cons.1 hb with eb | hb
    · exact absurd (ea.trans eb.symm) hne
    · rw [ea]; exact h1 b hb
    · rw [eb]; exact hs _ _ (h1 a ha)
    · exact pairwise_sym hs h2 a ha b hb hne
theorem dis_at {L : List Rt} (h : Dis L) {a b : Rt} (ha : a ∈ L) (hb : b ∈ L) (hne : a ≠ b) : coversP (rP a) (rP b) = false := (pairwise_sym (fun _ _ h => ⟨h.2, h.1⟩) h a ha b hb hne).1
theorem dis_inj {L : List Rt} (hg : ∀ x ∈ L, goodR x = true) (h : Dis L) {a b : Rt} (ha : a ∈ L) (hb : b ∈ L) (he : rP a = rP b) : a = b := by
  by_cases e : a = b
  · exact e
  · have := dis_at h ha hb e
    rw [he, covers_self (good_sane (hg b hb))] at this
    cases this
section
variable {m : Tb} {z : TbZ}
theorem okTb.mem (h : okTb m z) {x : Rt} : x ∈ m.L ↔ ∃ i, z.sl.pl i = some x := by
  constructor
  · intro hx
    have : some x ∈ z.rc.1.map z.sl.pl := by rw [h.ord]; exact List.mem_map.2 ⟨x, hx, rfl⟩
    obtain ⟨i, _, hi⟩ := List.mem_map.1 this
    exact ⟨i, hi⟩
  · rintro ⟨i, hi⟩
    have : some x ∈ m.L.map some := by rw [← h.ord]; exact List.mem_map.2 ⟨i, (h.used i).1 (by rw [hi]; rfl), hi⟩
    obtain ⟨y, hy, he⟩ := List.mem_map.1 this
    cases he
    exact hy
theorem map_inj {α β : Type} {f : α → β} : ∀ {l : List α}, (l.map f).Nodup → ∀ a ∈ l, ∀ b ∈ l, f a = f b → a = b
  | [], _, a, ha, _, _, _ => by cases ha
  | x :: l, h, a, ha, b, hb, he => by
    rw [List.map_cons] at h
    obtain ⟨h1, h2⟩ := List.nodup_cons.1 h
    rcases List.mem_cons.1 ha with ea | ha <;> rcases List.mem_cons.1 hb with eb | hb
    · exact ea.trans eb.symm
    · exact absurd (List.mem_map.2 ⟨b, hb, by rw [← he, ea]⟩) h1
    · exact absurd (List.mem_map.2 ⟨a, ha, by rw [he, eb]⟩) h1
    · exact map_inj h2 a ha b hb he
theorem nodup_some {l : List Rt} (h : l.Nodup) : (l.map some).Nodup := by
  unfold List.Nodup
  rw [List.pairwise_map]
  exact h.imp fun {a b} k e => k (Option.some.inj e)
theorem okTb.one (h : okTb m z) {i j : Int} {x : Rt} (hi : z.sl.pl i = some x) (hj : z.sl.pl j = some x) : i = j := by
  have hn : (m.L.map some).Nodup := nodup_some (dis_nodup h.good h.dis)
  rw [← h.ord] at hn
  exact map_inj hn i ((h.used i).1 (by rw [hi]; rfl)) j ((h.used j).1 (by rw [hj]; rfl)) (hi.trans hj.symm)
theorem erase_map {f g : Int → Option Rt} {x : Rt} : ∀ {o : List Int} {L : List Rt} {i : Int}, o.map f = L.map some → o.Nodup → L.Nodup → i ∈ o → f i = some x → (∀ j, j ≠ i → g j = f j) → (o.erase i).map g = (L.filter fun y => !decide (y = x)).map some
  | [], L, i, _, _, _, hi, _, _ => by cases hi
  | j :: o, [], i, h, _, _, _, _, _ => by simp at h
  | j :: o, y :: L, i, h, ho, hL, hi, hx, hg => by
    simp only [List.map_cons, List.cons.injEq] at h
    obtain ⟨h1, h2⟩ := h
    obtain ⟨o1, o2⟩ := List.nodup_cons.1 ho
    obtain ⟨l1, l2⟩ := List.nodup_cons.1 hL
    by_cases e : j = i
    · subst e
      rw [List.erase_cons_head]
      have ey : y = x := Option.some.inj (h1.symm.trans hx)
      subst ey
      rw [List.filter_cons, if_neg (by simp)]
      have e1 : L.filter (fun z => !decide (z = y)) = L := List.filter_eq_self.2 fun z hz => by
        have : z ≠ y := fun e => l1 (e ▸ hz)
        simp [this]
      rw [e1, ← h2]
      refine List.map_congr_left fun k hk => hg k fun e => o1 (e ▸ hk)
    · have hi' : i ∈ o := by
        rcases List.mem_cons.1 hi with k | k
        · exact absurd k.symm e
        · exact k
      rw [List.erase_cons_tail (by simpa using e), List.map_cons, hg j e, h1]
      have ey : y ≠ x := by
        rintro rfl
        apply l1
        have : some y ∈ o.map f := List.mem_map.2 ⟨i, hi', hx⟩
        rw [h2] at this
        obtain ⟨w, hw, he⟩ := List.mem_map.1 this
        cases he
        exact hw
      rw [List.filter_cons, if_pos (by simp [ey]), List.map_cons, erase_map h2 o2 l2 hi' hx hg]
def leaveZ (z : TbZ) (i : Int) : TbZ := { z with rc := (z.rc.1.erase i, z.rc.2), sl := ⟨updF z.sl.pl i none, if (z.sl.pl i).isSome = true then z.sl.n - 1 else z.sl.n, z.sl.most⟩, tr := z.tr.del (rP ((z.sl.pl i).getD zRt)) }
def leavesZ (z : TbZ) (l : List Rt) : TbZ := l.foldl (fun z r => leaveZ z r.2.2.2.2) z
theorem okTb.sane (h : okTb m z) {i : Int} {x : Rt} (hi : z.sl.pl i = some x) : goodR x = true ∧ saneP (rP x) = true := by
  have := h.good x (h.mem.2 ⟨i, hi⟩)
  exact ⟨this, good_sane this⟩
theorem filter_ne_len {L : List Rt} (h : L.Nodup) {x : Rt} (hx : x ∈ L) : (L.filter fun y => !decide (y = x)).length + 1 = L.length := by
  have e : (L.filter fun y => !decide (y = x)) = L.erase x := by
    rw [h.erase_eq_filter]
    congr 1
    funext y
    simp [bne]
    by_cases e : y = x <;> simp [e]
  rw [e, List.length_erase_of_mem hx]
  have := List.length_pos_of_mem hx
  omega
theorem okTb.leave (h : okTb m z) {i : Int} {x : Rt} (hi : z.sl.pl i = some x) : okTb (m.drop x) (leaveZ z i) := by
  have hio : i ∈ z.rc.1 := (h.used i).1 (by rw [hi]; rfl)
  have hx : x ∈ m.L := h.mem.2 ⟨i, hi⟩
  obtain ⟨hg, hs⟩ := h.sane hi
  have hnd := dis_nodup h.good h.dis
  have hlen := filter_ne_len hnd hx
  have e1 : (z.sl.pl i).getD zRt = x := by rw [hi]; rfl
  have e2 : (leaveZ z i).tr = ⟨delE z.tr.e (rP x), z.tr.k + 1⟩ := by unfold leaveZ TrM.del; rw [e1, if_pos hs]
  have e3 : (leaveZ z i).sl = ⟨updF z.sl.pl i none, z.sl.n - 1, z.sl.most⟩ := by unfold leaveZ; rw [hi]; rfl
  have upn : ∀ j, j ≠ i → updF z.sl.pl i none j = z.sl.pl j := fun j hj => by unfold updF; rw [if_neg hj]
  have upi : updF z.sl.pl i none i = none := by unfold updF; rw [if_pos rfl]
  refine ⟨h.pol, h.sk, ⟨h.most.1, by rw [e3]; exact h.most.2.1, h.most.2.2⟩, ?_, ?_, ?_, ?_, ?_, ?_, ?_, ?_, ?_, ?_, ?_, h.ksk⟩
  · rw [e3]
    have := h.n
    show z.sl.n - 1 = ((m.L.filter fun y => !decide (y = x)).length : Int) ∧ ((m.L.filter fun y => !decide (y = x)).length : Int) ≤ m.most
    omega
  · rw [e3]
    exact erase_map h.ord h.nd hnd hio hi upn
  · intro j
    rw [e3]
    show (updF z.sl.pl i none j).isSome = true ↔ j ∈ z.rc.1.erase i
    rw [h.nd.mem_erase_iff]
    by_cases e : j = i
    · rw [e, upi]; simp
    · rw [upn j e, h.used j]; simp [e]
  · exact fun j hj => h.rng j (List.mem_of_mem_erase hj)
  · exact h.nd.erase i
  · rw [e2]; exact srt_delE h.srt _
  · rw [e2]; exact snn_filter h.snn _
  · intro r
    rw [e2, e3]
    show r ∈ delE z.tr.e (rP x) ↔ saneP (rP r) = true ∧ ∃ y, updF z.sl.pl i none r.2.2.2.2 = some y ∧ rP y = rP r
    rw [mem_delE, h.tr]
    constructor
    · rintro ⟨⟨h1, y, h2, h3⟩, h4⟩
      have : r.2.2.2.2 ≠ i := by
        intro e
        rw [e, hi] at h2
        cases h2
        exact h4 h3.symm
      exact ⟨h1, y, by rw [upn _ this]; exact h2, h3⟩
    · rintro ⟨h1, y, h2, h3⟩
      have hne : r.2.2.2.2 ≠ i := by
        intro e
        rw [e, upi] at h2
        cases h2
      rw [upn _ hne] at h2
      refine ⟨⟨h1, y, h2, h3⟩, fun e => hne ?_⟩
      have : y = x := dis_inj h.good h.dis (h.mem.2 ⟨_, h2⟩) hx (h3.trans e)
      subst this
      exact h.one h2 hi
  · rw [e2]; show z.tr.k + 1 = m.k + 1; rw [h.k]
  · exact fun y hy => h.good y (List.mem_filter.1 hy).1
  · exact List.Pairwise.filter _ h.dis
def atZ (z : TbZ) (r : Rt) : Rt := (z.sl.pl r.2.2.2.2).getD zRt
structure LeaveOk (z : TbZ) (l : List Rt) : Prop where
  at' : ∀ r ∈ l, ∃ x, z.sl.pl r.2.2.2.2 = some x ∧ wfP (rP x)
  nd : (l.map fun r => r.2.2.2.2).Nodup
  k : z.tr.k + l.length ≤ 7000
theorem leaves_app (z : TbZ) (l : List Rt) (r : Rt) : leavesZ z (l ++ [r]) = leaveZ (leavesZ z l) r.2.2.2.2 := by unfold leavesZ; rw [List.foldl_append]; rfl
theorem leaves_at : ∀ {l : List Rt} {z : TbZ} {j : Int}, j ∉ l.map (fun r => r.2.2.2.2) → (leavesZ z l).sl.pl j = z.sl.pl j
  | [], _, _, _ => rfl
  | r :: l, z, j, hj => by
    rw [List.map_cons, List.mem_cons] at hj
    show (leavesZ (leaveZ z r.2.2.2.2) l).sl.pl j = _
    rw [leaves_at fun h => hj (.inr h)]
    show updF z.sl.pl r.2.2.2.2 none j = _
    unfold updF
    rw [if_neg fun e => hj (.inl e)]
theorem leaves_k : ∀ (l : List Rt) (z : TbZ), (leavesZ z l).tr.k ≤ z.tr.k + l.length
  | [], _ => Nat.le_refl _
  | r :: l, z => by
    have := leaves_k l (leaveZ z r.2.2.2.2)
    have e : (leaveZ z r.2.2.2.2).tr.k ≤ z.tr.k + 1 := by
      show (z.tr.del _).k ≤ _
      unfold TrM.del
      split
      · exact Nat.le_refl _
      · show z.tr.k ≤ _; omega
    show (leavesZ (leaveZ z r.2.2.2.2) l).tr.k ≤ z.tr.k + (l.length + 1)
    omega
theorem okTb.leaves : ∀ {l : List Rt} {m : Tb} {z : TbZ}, okTb m z → (∀ r ∈ l, ∃ x, z.sl.pl r.2.2.2.2 = some x) → (l.map fun r => r.2.2.2.2).Nodup → okTb (m.minus (l.map (atZ z))) (leavesZ z l)
  | [], m, z, h, _, _ => h
  | r :: l, m, z, h, ha, hn => by
    obtain ⟨x, hx⟩ := ha r List.mem_cons_self
    rw [List.map_cons] at hn
    obtain ⟨n1, n2⟩ := List.nodup_cons.1 hn
    have e : atZ z r = x := by unfold atZ; rw [hx]; rfl
    have h1 := h.leave hx
    have same : ∀ s ∈ l, (leaveZ z r.2.2.2.2).sl.pl s.2.2.2.2 = z.sl.pl s.2.2.2.2 := fun s hs => by
      show updF z.sl.pl r.2.2.2.2 none s.2.2.2.2 = _
      unfold updF
      rw [if_neg fun e => n1 (by rw [← e]; exact List.mem_map.2 ⟨s, hs, rfl⟩)]
    have h2 := okTb.leaves h1 (l := l) (fun s hs => by rw [same s hs]; exact ha s (List.mem_cons_of_mem _ hs)) n2
    have e2 : l.map (atZ (leaveZ z r.2.2.2.2)) = l.map (atZ z) := List.map_congr_left fun s hs => by unfold atZ; rw [same s hs]
    rw [e2] at h2
    show okTb (Tb.minus m (atZ z r :: l.map (atZ z))) (leavesZ (leaveZ z r.2.2.2.2) l)
    rw [e]
    exact h2
theorem okTb.leaveOk (h : okTb m z) (f : Rt → Bool) (hk : m.k + m.L.length ≤ 7000) : LeaveOk z (z.tr.e.filter f) ∧ (∀ r ∈ z.tr.e.filter f, ∃ x, z.sl.pl r.2.2.2.2 = some x ∧ rP x = rP r) := by
  have at' : ∀ r ∈ z.tr.e.filter f, ∃ x, z.sl.pl r.2.2.2.2 = some x ∧ rP x = rP r := fun r hr => ((h.tr r).1 (List.mem_filter.1 hr).1).2
  have nd : ((z.tr.e.filter f).map fun r => r.2.2.2.2).Nodup := by
    unfold List.Nodup
    rw [List.pairwise_map]
    refine List.Pairwise.imp_of_mem (fun {a b} ha hb k e => ?_) (srt_filter h.srt f)
    obtain ⟨x, hx, ex⟩ := at' a ha
    obtain ⟨y, hy, ey⟩ := at' b hb
    rw [e, hy] at hx
    cases hx
    rw [← ex, ← ey] at k
    exact pLtB_irrefl _ k
  refine ⟨⟨fun r hr => ?_, nd, ?_⟩, at'⟩
  · obtain ⟨x, hx, _⟩ := at' r hr
    exact ⟨x, hx, sane_wf (h.sane hx).2⟩
  · have sub : ((z.tr.e.filter f).map fun r => r.2.2.2.2).length ≤ z.rc.1.length := by
      refine nd.length_le_of_subset fun i hi => ?_
      obtain ⟨r, hr, rfl⟩ := List.mem_map.1 hi
      obtain ⟨x, hx, _⟩ := at' r hr
      exact (h.used _).1 (by rw [hx]; rfl)
    have : z.rc.1.length = m.L.length := by have := congrArg List.length h.ord; simpa using this
    rw [List.length_map] at sub
    have := h.k
    omega
/-! ### routes in order -/
def srtR (L : List Rt) : List Rt := L.foldl insE []
theorem snn_nil : Snn [] := fun _ h => by cases h
theorem srtR_ok : ∀ {L acc : List Rt}, (∀ x ∈ L, saneP (rP x) = true) → Srt acc → Snn acc → (acc ++ L).Pairwise (fun a b => rP a ≠ rP b) → Srt (L.foldl insE acc) ∧ ∀ x, x ∈ L.foldl insE acc ↔ x ∈ acc ∨ x ∈ L
  | [], acc, _, h1, h2, _ => ⟨h1, fun x => by simp⟩
  | y :: L, acc, hs, h1, h2, hd => by
    have hy := hs y List.mem_cons_self
    obtain ⟨d1, d2, d3⟩ := List.pairwise_append.1 hd
    obtain ⟨d4, d5⟩ := List.pairwise_cons.1 d2
    have hm : ∀ x, x ∈ insE acc y ↔ x ∈ acc ∨ x = y := fun x => by
      rw [mem_insE h2 hy]
      constructor
      · rintro (h | ⟨h, _⟩)
        · exact .inr h
        · exact .inl h
      · rintro (h | h)
        · exact .inr ⟨h, d3 x h y List.mem_cons_self⟩
        · exact .inl h
    have hd' : (insE acc y ++ L).Pairwise (fun a b => rP a ≠ rP b) := by
      refine List.pairwise_append.2 ⟨?_, d5, fun a ha b hb => ?_⟩
      · refine List.Pairwise.imp (fun {a b} k e => ?_) (srt_insE h1 y)
        rw [e] at k
        exact pLtB_irrefl _ k
      · rcases (hm a).1 ha with h | h
        · exact d3 a h b (List.mem_cons_of_mem _ hb)
        · rw [h]; exact d4 b hb
    obtain ⟨k1, k2⟩ := srtR_ok (L := L) (acc := insE acc y) (fun x hx => hs x (List.mem_cons_of_mem _ hx)) (srt_insE h1 y) (snn_insE h2 hy) hd'
    refine ⟨k1, fun x => ?_⟩
    rw [List.foldl_cons, k2 x, hm x, List.mem_cons, or_assoc]
theorem srtR_of {L : List Rt} (hs : ∀ x ∈ L, saneP (rP x) = true) (hd : L.Pairwise fun a b => rP a ≠ rP b) : Srt (srtR L) ∧ ∀ x, x ∈ srtR L ↔ x ∈ L := by
  obtain ⟨h1, h2⟩ := srtR_ok (L := L) (acc := []) hs List.Pairwise.nil snn_nil hd
  exact ⟨h1, fun x => by unfold srtR; rw [h2 x]; simp⟩
theorem okTb.routes (h : okTb m z) (f : Pf → Bool) : (z.tr.e.filter fun r => f (rP r)).map (atZ z) = srtR (m.L.filter fun x => f (rP x)) := by
  have hs : ∀ x ∈ m.L.filter (fun x => f (rP x)), saneP (rP x) = true := fun x hx => good_sane (h.good x (List.mem_filter.1 hx).1)
  obtain ⟨k1, k2⟩ := srtR_of hs (List.Pairwise.filter _ (dis_ne h.good h.dis))
  have at' : ∀ r ∈ z.tr.e, ∃ x, z.sl.pl r.2.2.2.2 = some x ∧ rP x = rP r ∧ atZ z r = x := fun r hr => by
    obtain ⟨_, x, hx, e⟩ := (h.tr r).1 hr
    exact ⟨x, hx, e, by unfold atZ; rw [hx]; rfl⟩
  refine srt_same ?_ k1 fun x => ?_
  · unfold Srt
    rw [List.pairwise_map]
    refine List.Pairwise.imp_of_mem (fun {a b} ha hb k => ?_) (srt_filter h.srt _)
    obtain ⟨x, _, e1, e2⟩ := at' a (List.mem_filter.1 ha).1
    obtain ⟨y, _, e3, e4⟩ := at' b (List.mem_filter.1 hb).1
    rw [e2, e4, e1, e3]
    exact k
  · rw [k2, List.mem_filter, List.mem_map]
    constructor
    · rintro ⟨r, hr, rfl⟩
      obtain ⟨r1, r2⟩ := List.mem_filter.1 hr
      obtain ⟨x, hx, e1, e2⟩ := at' r r1
      rw [e2]
      exact ⟨h.mem.2 ⟨_, hx⟩, by rw [e1]; exact r2⟩
    · rintro ⟨hx, hf⟩
      obtain ⟨i, hi⟩ := h.mem.1 hx
      have hr : mkR (rP x) i ∈ z.tr.e := (h.tr _).2 ⟨(h.sane hi).2, x, hi, rfl⟩
      refine ⟨mkR (rP x) i, List.mem_filter.2 ⟨hr, hf⟩, ?_⟩
      obtain ⟨y, hy, _, e⟩ := at' _ hr
      have hy : z.sl.pl i = some y := hy
      rw [e]
      rw [hi] at hy
      exact (Option.some.inj hy).symm
end
end Sp
end
section
set_option linter.all false
namespace Sp
open Go Go.Proofs Sx Go.Proofs.YthnhbnakpmkppaaGreat.Ma
@[reducible] def tbC (pol : Int) : Ob := .cells [.p 1 0, .l (.i .i64 pol), .p 2 0, .p 3 0, .p 4 0]
@[reducible] def tbW (z : TbZ) : List Ob := [tbC z.pol, rcP.ob z.rc, slP.ob z.sl, trP.ob z.tr, skP.ob z.sk]
@[reducible] def tb3 (z : TbZ) : List (Nat × Ob) := [(1, rcP.ob z.rc), (2, slP.ob z.sl), (3, trP.ob z.tr)]
@[reducible] def tb4 (z : TbZ) : List (Nat × Ob) := [(1, rcP.ob z.rc), (2, slP.ob z.sl), (3, trP.ob z.tr), (4, skP.ob z.sk)]
def AtB : Con := { X := TbZ × Int, args := fun x => [.one (.p 0 0), .i .i64 x.2], heap := fun x => tbW x.1, pre := fun _ => True, outs := [{ Y := Unit, post := fun _ _ => True, res := fun x _ => .v (.agg (rtV ((x.1.sl.pl x.2).getD zRt))), out := fun x _ => [(2, slP.ob x.1.sl)], nn := 0 }] }
def LeaveB : Con := { X := TbZ × Int, args := fun x => [.one (.p 0 0), .i .i64 x.2], heap := fun x => tbW x.1, pre := fun x => (∃ r, x.1.sl.pl x.2 = some r ∧ wfP (rP r)) ∧ x.1.tr.k ≤ 7000, outs := [{ Y := Unit, post := fun _ _ => True, res := fun x _ => .v (.agg (rtV ((x.1.sl.pl x.2).getD zRt))), out := fun x _ => tb3 (leaveZ x.1 x.2), nn := 0 }] }
def LeaveAllB : Con := { X := TbZ × List Rt, args := fun x => [.one (.p 0 0), .one (.f 5 x.2.length)], heap := fun x => tbW x.1 ++ [.row false rtK x.2], pre := fun x => LeaveOk x.1 x.2, outs := [{ Y := Unit, post := fun _ _ => True, res := fun x _ => .a (.f 6 x.2.length), out := fun x _ => tb3 (leavesZ x.1 x.2) ++ [(6, .row true rtK (x.2.map (atZ x.1)))], nn := 1 }] }
def entsZ (z : TbZ) : List En := z.rc.1.map fun i => (i, countK z.sk (rP ((z.sl.pl i).getD zRt)))
def lightZ (z : TbZ) : Int := (chooseK z.pol (entsZ z)).1
structure LightOk (z : TbZ) : Prop where
  ne : z.rc.1.length ≠ 0 ∧ z.rc.1.length ≤ 1024
  at' : ∀ i ∈ z.rc.1, ∃ x, z.sl.pl i = some x ∧ wfP (rP x)
  k : z.tr.k ≤ 7000
def LightestB : Con := { X := TbZ, args := fun _ => [.one (.p 0 0)], heap := fun x => tbW x, pre := LightOk, outs := [{ Y := Unit, post := fun _ _ => True, res := fun z _ => .v (.agg (rtV ((z.sl.pl (lightZ z)).getD zRt))), out := fun z _ => tb4 (leaveZ z (lightZ z)), nn := 0 }] }
def TB0 : List (Nat × Con) := (82, NewTP) :: (103, AboveTP) :: (96, UnderTP) :: (177, LongestTP) :: (163, GetTP) :: (213, InsideTP) :: (263, LenTP) :: (160, PutTP) :: (211, DelTP) ::
  (178, TouchOP) :: (225, DropOP) :: (161, LenOP) :: (98, OrderOP) :: (80, NewOP) ::
  (159, TakeSP) :: (226, GiveSP) :: (175, AtSP) :: (219, LenSP) :: (155, CapSP) :: (81, NewSP) ::
  (179, AddKP) :: (220, CountKP) :: (165, DecayKP) :: (83, NewKP) :: (221, ChooseP fun _ => True) :: P1
def TB1 : List (Nat × Con) := (97, AtB) :: TB0
def TB2 : List (Nat × Con) := (164, LeaveB) :: TB1
def TB3 : List (Nat × Con) := (104, LeaveAllB) :: (158, LightestB) :: TB2
def LqB : FuncId → Nat → Lan
  | 104, _ => .inv { X := Int × TbZ × List Rt, slots := [10, 5], vals := fun x => [.i .i64 x.1, .a (.f 20 x.2.2.length)], fix := [1, 2, 3], new := [20], drop := [], obs := fun x => [rcP.ob x.2.1.rc, slP.ob x.2.1.sl, trP.ob x.2.1.tr, .row true rtK x.2.2] }
  | 158, _ => .inv { X := Int × TbZ × List En, slots := [15, 3], vals := fun x => [.i .i64 x.1, .a (.f 20 x.2.2.length)], fix := [2, 4], new := [20], drop := [], obs := fun x => [slP.ob x.2.1.sl, skP.ob x.2.1.sk, .row true enK x.2.2] }
  | _, _ => .none
end Sp
end
section
set_option linter.all false
set_option maxRecDepth 100000
namespace Sp
open Go Go.Proofs Sx
@[reducible] def H_SpTbt_1 (v1 : TbZ × Int) : Prop :=
 ∃ (b1 : Int × Int × Bool × Int × Int), v1.1.sl.pl v1.2 = some b1 /\ ((0 : Int) <= (pA (rP b1)).1 /\ (pA (rP b1)).1 < (18446744073709551616 : Int)) /\ (0 : Int) <= (pA (rP b1)).2.1 /\ (pA (rP b1)).2.1
 < (18446744073709551616 : Int)
def T_bat  : Prop :=
 ∀ (x : TbZ × Int), True -> ∃ (x_1 : SlM × Int), x.2 = x_1.2 /\ absR slP x.1.sl = absR slP x_1.1 /\ True /\ ∀ (y : Unit), True -> ∃ (y : Unit), True /\ ((x_1.1.pl x_1.2).getD zRt).1 = ((x.1.sl.pl
 x.2).getD zRt).1 /\ ((x_1.1.pl x_1.2).getD zRt).2.1 = ((x.1.sl.pl x.2).getD zRt).2.1 /\ ((x_1.1.pl x_1.2).getD zRt).2.2.1 = ((x.1.sl.pl x.2).getD zRt).2.2.1 /\ ((x_1.1.pl x_1.2).getD zRt).2.2.2.1 =
 ((x.1.sl.pl x.2).getD zRt).2.2.2.1 /\ ((x_1.1.pl x_1.2).getD zRt).2.2.2.2 = ((x.1.sl.pl x.2).getD zRt).2.2.2.2 /\ absR slP x_1.1 = absR slP x.1.sl /\ True
def T_bleave  : Prop :=
 ∀ (x : TbZ × Int), (H_SpTbt_1 x) /\ x.1.tr.k <= (7000 : Nat) -> ∃ (x_1 : TbZ × Int), x.2 = x_1.2 /\ x.1.pol = x_1.1.pol /\ absR rcP x.1.rc = absR rcP x_1.1.rc /\ absR slP x.1.sl = absR slP x_1.1.sl /\
 absR trP x.1.tr = absR trP x_1.1.tr /\ absR skP x.1.sk = absR skP x_1.1.sk /\ True /\ ∀ (y : Unit), True -> ∃ (x_2 : TrM × Pf), ((x_1.1.sl.pl x_1.2).getD zRt).1 = x_2.2.1 /\ ((x_1.1.sl.pl x_1.2).getD
 zRt).2.1 = x_2.2.2.1 /\ ((x_1.1.sl.pl x_1.2).getD zRt).2.2.1 = x_2.2.2.2.1 /\ ((x_1.1.sl.pl x_1.2).getD zRt).2.2.2.1 = x_2.2.2.2.2 /\ absR trP x.1.tr = absR trP x_2.1 /\ ((((0 : Int) <= (pA x_2.2).1
 /\ (pA x_2.2).1 < (18446744073709551616 : Int)) /\ (0 : Int) <= (pA x_2.2).2.1 /\ (pA x_2.2).2.1 < (18446744073709551616 : Int)) /\ x_2.1.k <= (7000 : Nat)) /\ ∀ (y : Unit), True -> ∃ (x_3 : RcM ×
 Int), x.2 = x_3.2 /\ absR rcP x.1.rc = absR rcP x_3.1 /\ True /\ ∀ (y : Unit), True -> ∃ (x_4 : SlM × Int), x.2 = x_4.2 /\ absR slP x_1.1.sl = absR slP x_4.1 /\ True /\ ∀ (y : Unit), True -> ∃ (y :
 Unit), True /\ ((x_1.1.sl.pl x_1.2).getD zRt).1 = ((x.1.sl.pl x.2).getD zRt).1 /\ ((x_1.1.sl.pl x_1.2).getD zRt).2.1 = ((x.1.sl.pl x.2).getD zRt).2.1 /\ ((x_1.1.sl.pl x_1.2).getD zRt).2.2.1 =
 ((x.1.sl.pl x.2).getD zRt).2.2.1 /\ ((x_1.1.sl.pl x_1.2).getD zRt).2.2.2.1 = ((x.1.sl.pl x.2).getD zRt).2.2.2.1 /\ ((x_1.1.sl.pl x_1.2).getD zRt).2.2.2.2 = ((x.1.sl.pl x.2).getD zRt).2.2.2.2 /\ absR
 rcP (x_3.1.1.erase x_3.2, x_3.1.2) = absR rcP (leaveZ x.1 x.2).rc /\ absR slP (SlM.mk (updF x_4.1.pl x_4.2 none) (if (x_4.1.pl x_4.2).isSome = true then x_4.1.n - (1 : Int) else x_4.1.n) x_4.1.most) =
 absR slP (leaveZ x.1 x.2).sl /\ absR trP (x_2.1.del x_2.2) = absR trP (leaveZ x.1 x.2).tr /\ True
def T_bleaveall  : Prop :=
 ∀ (x : TbZ × List Rt), LeaveOk x.1 x.2 -> ∃ (I : Int × TbZ × List Rt -> Prop), ∃ (μ : Int × TbZ × List Rt -> Nat), (∃ (x_1 : Int × TbZ × List Rt), I x_1 /\ (0 : Int) = x_1.1 /\ (0 : Nat) =
 x_1.2.2.length /\ absR rcP x.1.rc = absR rcP x_1.2.1.rc /\ absR slP x.1.sl = absR slP x_1.2.1.sl /\ absR trP x.1.tr = absR trP x_1.2.1.tr /\ [] = x_1.2.2 /\ True) /\ ∀ (x_1 : Int × TbZ × List Rt), I
 x_1 -> ifB (decide (x_1.1 < (↑x.2.length : Int))) (((0 : Int) <= x_1.1 /\ x_1.1 < (↑x.2.length : Int)) /\ ∃ (x_2 : TbZ × Int), (x.2.getD x_1.1.toNat ((0 : Int), (0 : Int), false, (0 : Int), (0 :
 Int))).2.2.2.2 = x_2.2 /\ x.1.pol = x_2.1.pol /\ absR rcP x_1.2.1.rc = absR rcP x_2.1.rc /\ absR slP x_1.2.1.sl = absR slP x_2.1.sl /\ absR trP x_1.2.1.tr = absR trP x_2.1.tr /\ absR skP x.1.sk = absR
 skP x_2.1.sk /\ ((H_SpTbt_1 x_2) /\ x_2.1.tr.k <= (7000 : Nat)) /\ ∀ (y : Unit), True -> ((x_1.2.2.length + [((x_2.1.sl.pl x_2.2).getD zRt)].length) * (40 : Nat) <= (140737488355328 : Nat) /\
 x_1.2.2.length + [((x_2.1.sl.pl x_2.2).getD zRt)].length <= (140737488355328 : Nat)) /\ ((-9223372036854775808 : Int) <= x_1.1 + (1 : Int) /\ x_1.1 + (1 : Int) <= (9223372036854775807 : Int)) /\ ∃ (y
 : Int × TbZ × List Rt), I y /\ μ y < μ x_1 /\ x_1.1 + (1 : Int) = y.1 /\ x_1.2.2.length + [((x_2.1.sl.pl x_2.2).getD zRt)].length = y.2.2.length /\ absR rcP (leaveZ x_2.1 x_2.2).rc = absR rcP y.2.1.rc
 /\ absR slP (leaveZ x_2.1 x_2.2).sl = absR slP y.2.1.sl /\ absR trP (leaveZ x_2.1 x_2.2).tr = absR trP y.2.1.tr /\ x_1.2.2 ++ [((x_2.1.sl.pl x_2.2).getD zRt)] = y.2.2 /\ True) (∃ (y : Unit), True /\
 x_1.2.2.length = x.2.length /\ absR rcP x_1.2.1.rc = absR rcP (leavesZ x.1 x.2).rc /\ absR slP x_1.2.1.sl = absR slP (leavesZ x.1 x.2).sl /\ absR trP x_1.2.1.tr = absR trP (leavesZ x.1 x.2).tr /\
 x_1.2.2 = List.map (atZ x.1) x.2 /\ True)
def T_blightest  : Prop :=
 ∀ (x : TbZ), LightOk x -> ∃ (x_1 : List Int × Nat), absR rcP x.rc = absR rcP x_1 /\ True /\ ∀ (y : Unit), True -> ∃ (I : Int × TbZ × List En -> Prop), ∃ (μ : Int × TbZ × List En -> Nat), (∃ (x_2 : Int
 × TbZ × List En), I x_2 /\ (0 : Int) = x_2.1 /\ (0 : Nat) = x_2.2.2.length /\ absR slP x.sl = absR slP x_2.2.1.sl /\ absR skP x.sk = absR skP x_2.2.1.sk /\ [] = x_2.2.2 /\ True) /\ ∀ (x_2 : Int × TbZ
 × List En), I x_2 -> ifB (decide (x_2.1 < (↑x_1.1.length : Int))) (((0 : Int) <= x_2.1 /\ x_2.1 < (↑x_1.1.length : Int)) /\ ∃ (x_3 : TbZ × Int), x_1.1.getD x_2.1.toNat (0 : Int) = x_3.2 /\ x.pol =
 x_3.1.pol /\ absR rcP x_1 = absR rcP x_3.1.rc /\ absR slP x_2.2.1.sl = absR slP x_3.1.sl /\ absR trP x.tr = absR trP x_3.1.tr /\ absR skP x_2.2.1.sk = absR skP x_3.1.sk /\ True /\ ∀ (y : Unit), True
 -> ∃ (x : Sk × Pf), ((x_3.1.sl.pl x_3.2).getD zRt).1 = x.2.1 /\ ((x_3.1.sl.pl x_3.2).getD zRt).2.1 = x.2.2.1 /\ ((x_3.1.sl.pl x_3.2).getD zRt).2.2.1 = x.2.2.2.1 /\ ((x_3.1.sl.pl x_3.2).getD
 zRt).2.2.2.1 = x.2.2.2.2 /\ absR skP x_2.2.1.sk = absR skP x.1 /\ (((0 : Int) <= (pA x.2).1 /\ (pA x.2).1 < (18446744073709551616 : Int)) /\ (0 : Int) <= (pA x.2).2.1 /\ (pA x.2).2.1 <
 (18446744073709551616 : Int)) /\ ∀ (y : Unit), True -> ((x_2.2.2.length + [(x_1.1.getD x_2.1.toNat (0 : Int), countK x.1 x.2)].length) * (16 : Nat) <= (140737488355328 : Nat) /\ x_2.2.2.length +
 [(x_1.1.getD x_2.1.toNat (0 : Int), countK x.1 x.2)].length <= (140737488355328 : Nat)) /\ ((-9223372036854775808 : Int) <= x_2.1 + (1 : Int) /\ x_2.1 + (1 : Int) <= (9223372036854775807 : Int)) /\ ∃
 (y : Int × TbZ × List En), I y /\ μ y < μ x_2 /\ x_2.1 + (1 : Int) = y.1 /\ x_2.2.2.length + [(x_1.1.getD x_2.1.toNat (0 : Int), countK x.1 x.2)].length = y.2.2.length /\ absR slP x_3.1.sl = absR slP
 y.2.1.sl /\ absR skP x.1 = absR skP y.2.1.sk /\ x_2.2.2 ++ [(x_1.1.getD x_2.1.toNat (0 : Int), countK x.1 x.2)] = y.2.2 /\ True) (∃ (x_3 : Int × List En), x.pol = x_3.1 /\ x_2.2.2.length =
 x_3.2.length /\ x_2.2.2 = x_3.2 /\ (True /\ x_3.2.length <= most) /\ ∀ (y : Unit), True -> ∃ (x_4 : TbZ × Int), (chooseK x_3.1 x_3.2).1 = x_4.2 /\ x.pol = x_4.1.pol /\ absR rcP x_1 = absR rcP x_4.1.rc
 /\ absR slP x_2.2.1.sl = absR slP x_4.1.sl /\ absR trP x.tr = absR trP x_4.1.tr /\ absR skP x_2.2.1.sk = absR skP x_4.1.sk /\ ((H_SpTbt_1 x_4) /\ x_4.1.tr.k <= (7000 : Nat)) /\ ∀ (y : Unit), True -> ∃
 (y : Unit), True /\ ((x_4.1.sl.pl x_4.2).getD zRt).1 = ((x.sl.pl (lightZ x)).getD zRt).1 /\ ((x_4.1.sl.pl x_4.2).getD zRt).2.1 = ((x.sl.pl (lightZ x)).getD zRt).2.1 /\ ((x_4.1.sl.pl x_4.2).getD
 zRt).2.2.1 = ((x.sl.pl (lightZ x)).getD zRt).2.2.1 /\ ((x_4.1.sl.pl x_4.2).getD zRt).2.2.2.1 = ((x.sl.pl (lightZ x)).getD zRt).2.2.2.1 /\ ((x_4.1.sl.pl x_4.2).getD zRt).2.2.2.2 = ((x.sl.pl (lightZ
 x)).getD zRt).2.2.2.2 /\ absR rcP (leaveZ x_4.1 x_4.2).rc = absR rcP (leaveZ x (lightZ x)).rc /\ absR slP (leaveZ x_4.1 x_4.2).sl = absR slP (leaveZ x (lightZ x)).sl /\ absR trP (leaveZ x_4.1
 x_4.2).tr = absR trP (leaveZ x (lightZ x)).tr /\ absR skP x_2.2.1.sk = absR skP (leaveZ x (lightZ x)).sk /\ True)
theorem o_bat : owes Tryz.prog (tab TB0) LqB 1 97 Tryz.f97 AtB = T_bat := by kernel_rfl
theorem o_bleave : owes Tryz.prog (tab TB1) LqB 1 164 Tryz.f164 LeaveB = T_bleave := by kernel_rfl
theorem o_bleaveall : owes Tryz.prog (tab TB2) LqB 1 104 Tryz.f104 LeaveAllB = T_bleaveall := by kernel_rfl
theorem o_blightest : owes Tryz.prog (tab TB2) LqB 1 158 Tryz.f158 LightestB = T_blightest := by kernel_rfl
end Sp
end
section
set_option linter.all false
set_option maxRecDepth 10000
namespace Sp
open Go Go.Proofs Sx Go.Proofs.YthnhbnakpmkppaaGreat.Ma
theorem mem_insK {key : En → Int} {a x : En} : ∀ {l : List En}, x ∈ insK key a l ↔ x = a ∨ x ∈ l
  | [] => by simp [insK]
  | y :: l => by
    unfold insK
    split
    · rw [List.mem_cons]
    · rw [List.mem_cons, mem_insK, List.mem_cons]
      constructor
      · rintro (h | h | h)
        · exact .inr (.inl h)
        · exact .inl h
        · exact .inr (.inr h)
      · rintro (h | h | h)
        · exact .inr (.inl h)
        · exact .inl h
        · exact .inr (.inr h)
theorem mem_isVK {key : En → Int} {x : En} : ∀ {l : List En}, x ∈ isVK key l ↔ x ∈ l
  | [] => by simp [isVK]
  | y :: l => by
    unfold isVK
    rw [mem_insK, mem_isVK, List.mem_cons]
theorem choose_mem {pol : Int} {l : List En} (h : l.length ≠ 0) : ∃ e ∈ l, chooseK pol l = (e.1, true) := by
  rw [chooseK_eq pol h]
  have hl := rankK_length pol l
  have hm : (rankK pol l).getD 0 (0, 0) ∈ rankK pol l := by
    rw [List.getD_eq_getElem?_getD, List.getElem?_eq_getElem (by omega)]
    exact List.getElem_mem _
  unfold rankK at hm
  rw [mem_isVK, List.mem_reverse] at hm
  exact ⟨_, hm, rfl⟩
theorem light_mem {z : TbZ} (h : z.rc.1.length ≠ 0) : lightZ z ∈ z.rc.1 := by
  obtain ⟨e, he, h1⟩ := choose_mem (pol := z.pol) (l := entsZ z) (by unfold entsZ; rw [List.length_map]; exact h)
  unfold lightZ
  rw [h1]
  unfold entsZ at he
  obtain ⟨i, hi, rfl⟩ := List.mem_map.1 he
  exact hi
theorem GTB0 : Goods Tryz.prog TB0 :=
  have gnew := good_of_owes hM hP GT4 Tryz.func82 rfl (o_tnew ▸ p_tnew)
  goods_cons (good_wrapN trP 0 gnew (o_tpnew ▸ p_tpnew)) <| goods_cons (good_wrap trP (GT4 _ _ rfl) (o_tpabove ▸ p_tpabove)) <| goods_cons (good_wrap trP (GT4 _ _ rfl) (o_tpunder ▸ p_tpunder)) <| goods_cons (good_wrap trP (GT4 _ _ rfl) (o_tplongest ▸ p_tplongest)) <|
  goods_cons (good_wrap trP (GT4 _ _ rfl) (o_tpget ▸ p_tpget)) <| goods_cons (good_wrap trP (GT4 _ _ rfl) (o_tpinside ▸ p_tpinside)) <| goods_cons (good_wrap trP (GT4 _ _ rfl) (o_tplen ▸ p_tplen)) <| goods_cons (good_wrap trP (GT4 _ _ rfl) (o_tpput ▸ p_tpput)) <| goods_cons (good_wrap trP (GT4 _ _ rfl) (o_tpdel ▸ p_tpdel)) <|
  goods_cons (good_wrap rcP g_otouch (o_optouch ▸ p_optouch)) <| goods_cons (good_wrap rcP g_odrop (o_opdrop ▸ p_opdrop)) <| goods_cons (good_wrap rcP g_olen (o_oplen ▸ p_oplen)) <| goods_cons (good_wrap rcP g_oorder (o_oporder ▸ p_oporder)) <| goods_cons (good_wrapN rcP 0 g_onew (o_opnew ▸ p_opnew)) <|
  goods_cons (good_wrap slP g_sltake (o_sptake ▸ p_sptake)) <| goods_cons (good_wrap slP g_slgive (o_spgive ▸ p_spgive)) <| goods_cons (good_wrap slP g_slat (o_spat ▸ p_spat)) <| goods_cons (good_wrap slP g_sllen (o_splen ▸ p_splen)) <| goods_cons (good_wrap slP g_slcap (o_spcap ▸ p_spcap)) <| goods_cons (good_wrapN slP 0 g_slnew (o_spnew ▸ p_spnew)) <|
  goods_cons (good_wrap skP (GS1 _ _ rfl) (o_kpadd ▸ p_kpadd)) <| goods_cons (good_wrap skP (GS1 _ _ rfl) (o_kpcount ▸ p_kpcount)) <| goods_cons (good_wrap skP (GS1 _ _ rfl) (o_kpdecay ▸ p_kpdecay)) <| goods_cons (good_wrapN skP 0 (GS1 _ _ rfl) (o_kpnew ▸ p_kpnew)) <| goods_cons g_choose GP1
theorem p_bat : T_bat := fun x _ => ⟨(x.1.sl, x.2), rfl, rfl, trivial, fun _ _ => ⟨(), trivial, rfl, rfl, rfl, rfl, rfl, rfl, trivial⟩⟩
theorem p_bleave : T_bleave := by
  unfold T_bleave; try dsimp only [H_SpTbt_1]
  rintro ⟨z, i⟩ ⟨⟨r, hr, hw⟩, hk⟩
  dsimp only at hr hk
  have e : (z.sl.pl i).getD zRt = r := by rw [hr]; rfl
  refine ⟨(z, i), rfl, rfl, rfl, rfl, rfl, rfl, trivial, fun _ _ => ⟨(z.tr, rP ((z.sl.pl i).getD zRt)), rfl, rfl, rfl, rfl, rfl, ⟨?_, hk⟩, fun _ _ => ⟨(z.rc, i), rfl, rfl, trivial, fun _ _ => ⟨(z.sl, i), rfl, rfl, trivial, fun _ _ => ⟨(), trivial, rfl, rfl, rfl, rfl, rfl, rfl, rfl, rfl, trivial⟩⟩⟩⟩⟩
  dsimp only
  rw [e]
  exact hw
theorem GTB1 : Goods Tryz.prog TB1 := goods_cons (good_of_owes hM hP GTB0 Tryz.func97 rfl (o_bat ▸ p_bat)) GTB0
theorem GTB2 : Goods Tryz.prog TB2 := goods_cons (good_of_owes hM hP GTB1 Tryz.func164 rfl (o_bleave ▸ p_bleave)) GTB1
theorem eta_rt (r : Rt) : (r.1, r.2.1, r.2.2.1, r.2.2.2.1, r.2.2.2.2) = r := rfl
theorem take_len' {α : Type} {l : List α} {i : Nat} (h : i ≤ l.length) : (l.take i).length = i := by rw [List.length_take]; omega
theorem take_snoc {α : Type} {l : List α} (d : α) {i : Nat} (h : i < l.length) : l.take (i + 1) = l.take i ++ [l.getD i d] := by
  rw [List.take_succ, List.getD_eq_getElem?_getD, List.getElem?_eq_getElem h]; rfl
theorem p_bleaveall : T_bleaveall := by
  unfold T_bleaveall; try dsimp only [H_SpTbt_1]
  rintro ⟨z, l⟩ h
  dsimp only at h
  have hl : l.length ≤ 7000 := by have := h.k; omega
  refine ⟨fun x => 0 ≤ x.1 ∧ x.1 ≤ l.length ∧ x.2 = (leavesZ z (l.take x.1.toNat), (l.take x.1.toNat).map (atZ z)), fun x => (l.length - x.1).toNat, ⟨(0, z, []), ⟨by simp, by simp, rfl⟩, rfl, rfl, rfl, rfl, rfl, rfl, trivial⟩, ?_⟩
  rintro ⟨i, w, out⟩ ⟨i0, i1, i2⟩
  dsimp only at i0 i1 i2
  cases i2
  have hlen : ((l.take i.toNat).map (atZ z)).length = i.toNat := by rw [List.length_map]; exact take_len' (by omega)
  dsimp only
  refine ifB_d (fun hlt => ?_) fun hge => ?_
  · have hlt' : i.toNat < l.length := by omega
    have hsn := take_snoc ((0, 0, false, 0, 0) : Rt) hlt'
    generalize hr : l.getD i.toNat (0, 0, false, 0, 0) = r at *
    have hmem : r ∈ l := by rw [← hr, List.getD_eq_getElem?_getD, List.getElem?_eq_getElem hlt']; exact List.getElem_mem _
    obtain ⟨x, hx, hw⟩ := h.at' r hmem
    have hni : r.2.2.2.2 ∉ (l.take i.toNat).map fun r => r.2.2.2.2 := by
      have hn := h.nd
      have : l = l.take (i.toNat + 1) ++ l.drop (i.toNat + 1) := (List.take_append_drop _ _).symm
      rw [this, hsn, List.map_append, List.map_append] at hn
      have := (List.nodup_append.1 hn).1
      intro hc
      exact (List.nodup_append.1 this).2.2 _ hc _ (by simp) rfl
    have hat := leaves_at (z := z) hni
    have hk := leaves_k (l.take i.toNat) z
    rw [take_len' (by omega)] at hk
    have e1 : ((leavesZ z (l.take i.toNat)).sl.pl r.2.2.2.2).getD zRt = atZ z r := by rw [hat]; rfl
    have hk2 := h.k
    refine ⟨by omega, ({ (leavesZ z (l.take i.toNat)) with pol := z.pol, sk := z.sk }, r.2.2.2.2), rfl, rfl, rfl, rfl, rfl, rfl, ⟨⟨x, by dsimp only; rw [hat, hx], hw⟩, by dsimp only; omega⟩, fun _ _ => ⟨⟨?_, ?_⟩, by omega, (i + 1, leavesZ z (l.take (i + 1).toNat), (l.take (i + 1).toNat).map (atZ z)), ⟨by dsimp only; omega, by dsimp only; omega, rfl⟩, by dsimp only; omega, rfl, ?_, ?_, ?_, ?_, ?_, trivial⟩⟩
    · rw [hlen]; simp; omega
    · rw [hlen]; simp; omega
    · rw [hlen]
      dsimp only
      rw [List.length_map, take_len' (by omega)]
      simp
      omega
    · dsimp only; rw [show (i + 1).toNat = i.toNat + 1 by omega, hsn, leaves_app]; rfl
    · dsimp only; rw [show (i + 1).toNat = i.toNat + 1 by omega, hsn, leaves_app]; rfl
    · dsimp only; rw [show (i + 1).toNat = i.toNat + 1 by omega, hsn, leaves_app]; rfl
    · dsimp only
      rw [show (i + 1).toNat = i.toNat + 1 by omega, hsn, List.map_append, List.map_singleton, e1]
  · have e : l.take i.toNat = l := List.take_of_length_le (by omega)
    rw [e]
    exact ⟨(), trivial, List.length_map .., rfl, rfl, rfl, rfl, trivial⟩
theorem p_blightest : T_blightest := by
  unfold T_blightest; try dsimp only [H_SpTbt_1]
  intro z h
  have hb := h.ne
  refine ⟨z.rc, rfl, trivial, fun _ _ => ⟨fun x => 0 ≤ x.1 ∧ x.1 ≤ z.rc.1.length ∧ x.2 = (z, (entsZ z).take x.1.toNat), fun x => (z.rc.1.length - x.1).toNat, ⟨(0, z, []), ⟨by simp, by simp, rfl⟩, rfl, rfl, rfl, rfl, rfl, trivial⟩, ?_⟩⟩
  rintro ⟨i, w, out⟩ ⟨i0, i1, i2⟩
  dsimp only at i0 i1 i2
  cases i2
  have el : (entsZ z).length = z.rc.1.length := by unfold entsZ; rw [List.length_map]
  have hlen : ((entsZ z).take i.toNat).length = i.toNat := take_len' (by omega)
  dsimp only
  refine ifB_d (fun hlt => ?_) fun hge => ?_
  · have hlt' : i.toNat < z.rc.1.length := by omega
    have hmem : z.rc.1.getD i.toNat 0 ∈ z.rc.1 := by rw [List.getD_eq_getElem?_getD, List.getElem?_eq_getElem hlt']; exact List.getElem_mem _
    have hsn := take_snoc ((0, 0) : En) (l := entsZ z) (i := i.toNat) (by omega)
    have hen : (entsZ z).getD i.toNat (0, 0) = (z.rc.1.getD i.toNat 0, countK z.sk (rP ((z.sl.pl (z.rc.1.getD i.toNat 0)).getD zRt))) := by
      unfold entsZ
      rw [List.getD_eq_getElem?_getD, List.getD_eq_getElem?_getD, List.getElem?_map, List.getElem?_eq_getElem hlt']
      rfl
    rw [hen] at hsn
    obtain ⟨x, hx, hw⟩ := h.at' _ hmem
    generalize z.rc.1.getD i.toNat 0 = j at *
    have e : (z.sl.pl j).getD zRt = x := by rw [hx]; rfl
    refine ⟨by omega, (z, j), rfl, rfl, rfl, rfl, rfl, rfl, trivial, fun _ _ => ⟨(z.sk, rP ((z.sl.pl j).getD zRt)), rfl, rfl, rfl, rfl, rfl, by dsimp only; rw [e]; exact hw, fun _ _ => ⟨⟨?_, ?_⟩, by omega, (i + 1, z, (entsZ z).take (i + 1).toNat), ⟨by dsimp only; omega, by dsimp only; omega, rfl⟩, by dsimp only; omega, rfl, ?_, rfl, rfl, ?_, trivial⟩⟩⟩
    · rw [hlen]; simp; omega
    · rw [hlen]; simp; omega
    · dsimp only
      rw [hlen, take_len' (by omega)]
      simp
      omega
    · dsimp only
      rw [show (i + 1).toNat = i.toNat + 1 by omega, hsn]
  · have e : (entsZ z).take i.toNat = entsZ z := List.take_of_length_le (by omega)
    rw [e]
    obtain ⟨x, hx, hw⟩ := h.at' _ (light_mem hb.1)
    refine ⟨(z.pol, entsZ z), rfl, rfl, rfl, ⟨trivial, by rw [el]; show _ ≤ 1000000; omega⟩, fun _ _ => ⟨(z, lightZ z), rfl, rfl, rfl, rfl, rfl, rfl, ⟨⟨x, hx, hw⟩, h.k⟩, fun _ _ => ⟨(), trivial, rfl, rfl, rfl, rfl, rfl, rfl, rfl, rfl, rfl, trivial⟩⟩⟩
theorem GTB3 : Goods Tryz.prog TB3 := goods_cons (good_of_owes hM hP GTB2 Tryz.func104 rfl (o_bleaveall ▸ p_bleaveall)) (goods_cons (good_of_owes hM hP GTB2 Tryz.func158 rfl (o_blightest ▸ p_blightest)) GTB2)
end Sp
end
section
set_option linter.all false
namespace Sp
open Go Go.Proofs Sx Go.Proofs.YthnhbnakpmkppaaGreat.Ma
@[reducible] def pfK : List Kd := [.i .u64, .i .u64, .b, .i .i64]
def Tb.find (m : Tb) (a : Ad) : Option Rt := m.L.find? fun r => containsP (rP r) a
def Tb.use (m : Tb) (x : Rt) : Tb := { m with L := x :: m.L.filter (fun y => !decide (y = x)), sk := addK m.sk (rP x) }
def Tb.put (m : Tb) (x : Rt) : Tb := { m.use x with k := m.k + 1 }
def Tb.hit (m : Tb) (a : Ad) : Tb := match m.find a with
  | some x => m.use x
  | none => m
def Tb.refused (m : Tb) (x : Rt) : Bool := decide (m.most = 0) || (!goodR x || m.L.any fun r => coversP (rP r) (rP x))
def Tb.insd (m : Tb) (p : Pf) : List Rt := srtR (m.L.filter fun r => coversP p (rP r))
def Tb.ents (m : Tb) : List En := (List.range m.L.length).map fun (j : Nat) => ((j : Int), countK m.sk (rP (m.L.getD j zRt)))
def Tb.victim (m : Tb) : Rt := m.L.getD (chooseK m.pol m.ents).1.toNat zRt
def Tb.install (m : Tb) (x : Rt) (soft : Bool) : Tb × Bool × List Rt × List Rt :=
  if m.refused x = true then (m, false, [], [])
  else if (soft && (!(m.insd (rP x)).isEmpty || decide (m.most ≤ m.L.length))) = true then (m, false, [], [])
  else if (m.minus (m.insd (rP x))).most ≤ (m.minus (m.insd (rP x))).L.length then (((m.minus (m.insd (rP x))).drop (m.minus (m.insd (rP x))).victim).put x, true, m.insd (rP x), [(m.minus (m.insd (rP x))).victim])
  else ((m.minus (m.insd (rP x))).put x, true, m.insd (rP x), [])
def Tb.has (m : Tb) (p : Pf) : Option Rt := m.L.find? fun r => decide (rP r = p)
def Tb.evict (m : Tb) (p : Pf) : Tb := match m.has p with
  | some x => m.drop x
  | none => m
def Tb.lost (m : Tb) (p : Pf) : List Rt := srtR (m.L.filter fun r => coversP p (rP r) || coversP (rP r) p)
def Tb.flush (m : Tb) (p : Pf) : Tb := m.minus (m.lost p)
def Tb.tick (m : Tb) : Tb := { m with sk := decK m.sk }
def Tb.new (most pol : Int) : Tb := ⟨[], max 0 (min most 1024), pol, newK 2 64, 0⟩
def newZ (most pol : Int) : TbZ := ⟨([], (max 0 (min most 1024)).toNat), ⟨fun _ => none, 0, max 0 (min most 1024)⟩, ⟨[], 0⟩, newK 2 64, pol⟩
@[reducible] def Tb.small (m : Tb) : Prop := m.k + m.L.length ≤ 6000
def NewB : Con := { X := Int × Int, args := fun x => [.i .i64 x.1, .i .i64 x.2], heap := fun _ => [], pre := fun _ => True, outs := [{ Y := Unit, post := fun _ _ => True, res := fun _ _ => .a (.p 0 0), out := fun x _ => (0, tbC x.2) :: tb4 (newZ x.1 x.2), nn := 5 }] }
def FindB : Con := { X := Tb × TbZ × Ad, args := fun x => [.one (.p 0 0), .agg (adV x.2.2)], heap := fun x => tbW x.2.1, pre := fun x => okTb x.1 x.2.1 ∧ wfA x.2.2, outs := [{ Y := Unit, post := fun _ _ => True, res := fun x _ => .tup [.agg (rtV ((x.1.find x.2.2).getD zRt)), .b (x.1.find x.2.2).isSome], out := fun x _ => tb4 x.2.1, nn := 0 }] }
def HitB : Con := { X := Tb × TbZ × Ad, args := fun x => [.one (.p 0 0), .agg (adV x.2.2)], heap := fun x => tbW x.2.1, pre := fun x => okTb x.1 x.2.1 ∧ wfA x.2.2, outs := [{ Y := TbZ, post := fun x y => okTb (x.1.hit x.2.2) y, res := fun x _ => .tup [.agg (rtV ((x.1.find x.2.2).getD zRt)), .b (x.1.find x.2.2).isSome], out := fun _ y => tb4 y, nn := 0 }] }
def InstallB : Con := { X := Tb × TbZ × Rt × Bool, args := fun x => [.one (.p 0 0), .agg (rtV x.2.2.1), .b x.2.2.2], heap := fun x => tbW x.2.1, pre := fun x => okTb x.1 x.2.1 ∧ wfR x.2.2.1 ∧ x.1.small, outs := [{ Y := TbZ, post := fun x y => okTb (x.1.install x.2.2.1 x.2.2.2).1 y, res := fun x _ => .v (.agg [.l (.b (x.1.install x.2.2.1 x.2.2.2).2.1), .f 5 (x.1.install x.2.2.1 x.2.2.2).2.2.1.length, .f 6 (x.1.install x.2.2.1 x.2.2.2).2.2.2.length]), out := fun x y => tb4 y ++ [(5, .row true rtK (x.1.install x.2.2.1 x.2.2.2).2.2.1), (6, .row true rtK (x.1.install x.2.2.1 x.2.2.2).2.2.2)], nn := 2 }] }
def EvictB : Con := { X := Tb × TbZ × Pf, args := fun x => [.one (.p 0 0), .agg (pfV x.2.2)], heap := fun x => tbW x.2.1, pre := fun x => okTb x.1 x.2.1 ∧ wfP x.2.2 ∧ x.1.small, outs := [{ Y := TbZ, post := fun x y => okTb (x.1.evict x.2.2) y, res := fun x _ => .b (x.1.has x.2.2).isSome, out := fun _ y => tb4 y, nn := 0 }] }
def FlushB : Con := { X := Tb × TbZ × Pf, args := fun x => [.one (.p 0 0), .agg (pfV x.2.2)], heap := fun x => tbW x.2.1, pre := fun x => okTb x.1 x.2.1 ∧ wfP x.2.2 ∧ x.1.small, outs := [{ Y := TbZ, post := fun x y => okTb (x.1.flush x.2.2) y, res := fun x _ => .a (.f 5 (x.1.lost x.2.2).length), out := fun x y => tb4 y ++ [(5, .row true rtK (x.1.lost x.2.2))], nn := 1 }] }
def TickB : Con := { X := Tb × TbZ, args := fun _ => [.one (.p 0 0)], heap := fun x => tbW x.2, pre := fun x => okTb x.1 x.2, outs := [{ Y := TbZ, post := fun x y => okTb x.1.tick y, res := fun _ _ => .tup [], out := fun _ y => tb4 y, nn := 0 }] }
def AllB : Con := { X := Tb × TbZ, args := fun _ => [.one (.p 0 0)], heap := fun x => tbW x.2, pre := fun x => okTb x.1 x.2, outs := [{ Y := Unit, post := fun _ _ => True, res := fun x _ => .a (.f 5 (srtR x.1.L).length), out := fun x _ => tb4 x.2 ++ [(5, .row true rtK (srtR x.1.L))], nn := 1 }] }
def OrderB : Con := { X := Tb × TbZ, args := fun _ => [.one (.p 0 0)], heap := fun x => tbW x.2, pre := fun x => okTb x.1 x.2, outs := [{ Y := Unit, post := fun _ _ => True, res := fun x _ => .a (.f 5 x.1.L.length), out := fun x _ => tb4 x.2 ++ [(5, .row true pfK (x.1.L.map rP))], nn := 1 }] }
def SizeB : Con := { X := Tb × TbZ, args := fun _ => [.one (.p 0 0)], heap := fun x => tbW x.2, pre := fun x => okTb x.1 x.2, outs := [{ Y := Unit, post := fun _ _ => True, res := fun x _ => .tup [.i .i64 x.1.L.length, .i .i64 x.1.most], out := fun x _ => tb4 x.2, nn := 0 }] }
@[reducible] def tbP : Pk := { M := Tb, Z := TbZ, φ := okTb, obs := tbW }
def NewTB : Con := { X := Int × Int, args := fun x => [.i .i64 x.1, .i .i64 x.2], heap := fun _ => [], pre := fun _ => True, outs := [{ Y := Unit, post := fun _ _ => True, res := fun _ _ => .a (.p 0 0), out := fun x _ => [(0, tbP.ob (Tb.new x.1 x.2))], nn := 1 }] }
def FindTB : Con := .lookP tbP (Tb × Ad) (fun x => x.1) (fun x => [.agg (adV x.2)]) (fun x => wfA x.2) fun x => .tup [.agg (rtV ((x.1.find x.2).getD zRt)), .b (x.1.find x.2).isSome]
def HitTB : Con := .setP tbP (Tb × Ad) (fun x => x.1) (fun x => [.agg (adV x.2)]) (fun x => wfA x.2) (fun x => x.1.hit x.2) fun x => .tup [.agg (rtV ((x.1.find x.2).getD zRt)), .b (x.1.find x.2).isSome]
def InstallTB : Con := { X := Tb × Rt × Bool, args := fun x => [.one (.p 0 0), .agg (rtV x.2.1), .b x.2.2], heap := fun x => [tbP.ob x.1], pre := fun x => wfR x.2.1 ∧ x.1.small, outs := [{ Y := Unit, post := fun _ _ => True, res := fun x _ => .v (.agg [.l (.b (x.1.install x.2.1 x.2.2).2.1), .f 1 (x.1.install x.2.1 x.2.2).2.2.1.length, .f 2 (x.1.install x.2.1 x.2.2).2.2.2.length]), out := fun x _ => [(0, tbP.ob (x.1.install x.2.1 x.2.2).1), (1, .row true rtK (x.1.install x.2.1 x.2.2).2.2.1), (2, .row true rtK (x.1.install x.2.1 x.2.2).2.2.2)], nn := 2 }] }
def EvictTB : Con := .setP tbP (Tb × Pf) (fun x => x.1) (fun x => [.agg (pfV x.2)]) (fun x => wfP x.2 ∧ x.1.small) (fun x => x.1.evict x.2) fun x => .b (x.1.has x.2).isSome
def FlushTB : Con := { X := Tb × Pf, args := fun x => [.one (.p 0 0), .agg (pfV x.2)], heap := fun x => [tbP.ob x.1], pre := fun x => wfP x.2 ∧ x.1.small, outs := [{ Y := Unit, post := fun _ _ => True, res := fun x _ => .a (.f 1 (x.1.lost x.2).length), out := fun x _ => [(0, tbP.ob (x.1.flush x.2)), (1, .row true rtK (x.1.lost x.2))], nn := 1 }] }
def TickTB : Con := .setP tbP Tb (fun x => x) (fun _ => []) (fun _ => True) (fun x => x.tick) fun _ => .tup []
def AllTB : Con := .rowP tbP Tb (fun x => x) (fun _ => []) (fun _ => True) rtK fun x => srtR x.L
def OrderTB : Con := .rowP tbP Tb (fun x => x) (fun _ => []) (fun _ => True) pfK fun x => x.L.map rP
def SizeTB : Con := .lookP tbP Tb (fun x => x) (fun _ => []) (fun _ => True) fun x => .tup [.i .i64 x.L.length, .i .i64 x.most]
def LqC : FuncId → Nat → Lan
  | 27, 0 => .unroll 3
  | 27, _ => .alts [{ X := Int × TbZ × List Rt, slots := [26, 3], vals := fun x => [.i .i64 x.1, .a (.f 60 x.2.2.length)], fix := [2], new := [60], drop := [20], obs := fun x => [slP.ob x.2.1.sl, .row true rtK x.2.2] }, { X := Int × TbZ × List Rt, slots := [26, 3], vals := fun x => [.i .i64 x.1, .a (.f 20 x.2.2.length)], fix := [2], new := [20], drop := [], obs := fun x => [slP.ob x.2.1.sl, .row true rtK x.2.2] }]
  | 28, _ => .inv { X := Int × TbZ × List Pf, slots := [16, 3], vals := fun x => [.i .i64 x.1, .a (.f 20 x.2.2.length)], fix := [2], new := [20], drop := [], obs := fun x => [slP.ob x.2.1.sl, .row true pfK x.2.2] }
  | _, _ => .none
end Sp
end
