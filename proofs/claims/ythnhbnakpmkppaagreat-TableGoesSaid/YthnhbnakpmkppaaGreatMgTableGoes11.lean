import Derived.Test.YthnhbnakpmkppaaGreatMgTableGoes9
import Derived.Test.YthnhbnakpmkppaaGreatMgTableGoes10
section
set_option linter.all false
set_option maxRecDepth 10000
namespace Sp
open Go Go.Proofs Sx Go.Proofs.YthnhbnakpmkppaaGreat.Ma
@[reducible] def bnd64 (z : Int) : Prop := (-9223372036854775808) ≤ z ∧ z ≤ 9223372036854775807
def plP (k : Int) (p : Pf) : Pl := (k, p.1, p.2.1, p.2.2.1, p.2.2.2)
def uE (I : List Pl × List Rt → Prop) (μ : List Pl × List Rt → Nat) (x : List Pl × List Rt) (n m : Nat) (L : List Pl) (O : List Rt) : Prop :=
  ∃ (y : List Pl × List Rt), I y ∧ μ y < μ x ∧ n = y.1.length ∧ m = y.2.length ∧ L = y.1 ∧ O = y.2 ∧ True
def uS0 (I : List Pl × List Rt → Prop) (μ : List Pl × List Rt → Nat) (x : List Pl × List Rt) (p : Pf) (k0 : Int) (n m : Nat) (L : List Pl) (O : List Rt) : Prop :=
  ∃ (z : Pf × Int), p.1 = z.1.1 ∧ p.2.1 = z.1.2.1 ∧ p.2.2.1 = z.1.2.2.1 ∧ p.2.2.2 = z.1.2.2.2 ∧ (0 : Int) = z.2 ∧ (wfP z.1 ∧ 0 ≤ z.2 ∧ z.2 ≤ 2) ∧ ∀ (y : Unit), True →
    ifB (childR z.1 z.2).2 (ifB (!decide (k0 = -1)) (((n + [plP k0 (childR z.1 z.2).1].length) * 40 ≤ 140737488355328 ∧ n + [plP k0 (childR z.1 z.2).1].length ≤ 140737488355328) ∧ bnd64 (-1) ∧ uE I μ x (n + [plP k0 (childR z.1 z.2).1].length) m (L ++ [plP k0 (childR z.1 z.2).1]) O)
      (bnd64 (-1) ∧ uE I μ x n m L O)) (bnd64 (-1) ∧ uE I μ x n m L O)
def uS1 (I : List Pl × List Rt → Prop) (μ : List Pl × List Rt → Nat) (x : List Pl × List Rt) (p : Pf) (k0 k1 : Int) (n m : Nat) (L : List Pl) (O : List Rt) : Prop :=
  ∃ (z : Pf × Int), p.1 = z.1.1 ∧ p.2.1 = z.1.2.1 ∧ p.2.2.1 = z.1.2.2.1 ∧ p.2.2.2 = z.1.2.2.2 ∧ (1 : Int) = z.2 ∧ (wfP z.1 ∧ 0 ≤ z.2 ∧ z.2 ≤ 2) ∧ ∀ (y : Unit), True →
    ifB (childR z.1 z.2).2 (ifB (!decide (k1 = -1)) (((n + [plP k1 (childR z.1 z.2).1].length) * 40 ≤ 140737488355328 ∧ n + [plP k1 (childR z.1 z.2).1].length ≤ 140737488355328) ∧ bnd64 0 ∧ uS0 I μ x p k0 (n + [plP k1 (childR z.1 z.2).1].length) m (L ++ [plP k1 (childR z.1 z.2).1]) O)
      (bnd64 0 ∧ uS0 I μ x p k0 n m L O)) (bnd64 0 ∧ uS0 I μ x p k0 n m L O)
/-! ### plain facts -/
def plOf (v6 : Bool) (R : Tr) (q : List Bool) : Pl := plP (R.sub q).ix (pfx v6 q)
def flatT (R : Tr) (qs : List (List Bool)) : List Ent := (qs.map fun q => (R.sub q).lst q).flatten
def sizeQ (R : Tr) (qs : List (List Bool)) : Nat := (qs.map fun q => (R.sub q).ids.length).sum
theorem nodup_len : ∀ (n : Nat) (l : List Nat), l.Nodup → (∀ x ∈ l, x < n) → l.length ≤ n
  | 0, l, _, h => by
    cases l with
    | nil => exact Nat.le_refl 0
    | cons x l => exact absurd (h x (by simp)) (Nat.not_lt_zero x)
  | n + 1, l, hn, h => by
    have h1 := nodup_len n (l.erase n) (hn.erase n) fun x hx => by
      have := h x (List.mem_of_mem_erase hx)
      have hne : x ≠ n := fun e => by
        subst e
        exact absurd hx (hn.not_mem_erase)
      omega
    have h2 : l.length ≤ (l.erase n).length + 1 := by
      rw [List.length_erase]
      split <;> omega
    omega
theorem lst_length : ∀ (t : Tr) (q : List Bool), (t.lst q).length ≤ t.ids.length
  | .nil, q => Nat.le_refl 0
  | .node i e l r, q => by
    have h1 := lst_length l (q ++ [false])
    have h2 := lst_length r (q ++ [true])
    have h3 := own_length q e
    rw [Tr.lst, Tr.ids, List.length_append, List.length_append, List.length_cons, List.length_append]
    omega
theorem rep_ids {ar : List Nd} : ∀ {t : Tr} {up : Int}, t.Rep ar up → ∀ x ∈ t.ids, x < ar.length
  | .nil, _, _, x, h => by cases h
  | .node i e l r, up, ⟨⟨h1, _⟩, hl, hr⟩, x, h => by
    rcases List.mem_cons.1 h with rfl | h
    · exact h1
    · rcases List.mem_append.1 h with h | h
      · exact rep_ids hl x h
      · exact rep_ids hr x h
theorem TRb.size {ar : List Nd} {fr : List Int} {t0 t1 : Tr} (h : TRb ar fr t0 t1) (v6 : Bool) : (tsel t0 t1 v6).ids.length ≤ 2000000 := by
  have hb := h.big.1
  have hn := List.nodup_append.1 h.ids
  have hn := List.nodup_append.1 hn.1
  cases v6 with
  | false => exact Nat.le_trans (nodup_len _ _ hn.1 (rep_ids h.rep0)) hb
  | true => exact Nat.le_trans (nodup_len _ _ hn.2.1 (rep_ids h.rep1)) hb
theorem sub_size : ∀ (q : List Bool) (t : Tr), (t.sub q).ids.length ≤ t.ids.length
  | [], t => Nat.le_refl _
  | b :: q, .nil => by rw [Tr.sub_nil]; exact Nat.le_refl _
  | b :: q, .node i e l r => by
    rw [Tr.sub_cons]
    have := sub_size q ((Tr.node i e l r).go b)
    have h2 : ((Tr.node i e l r).go b).ids.length ≤ (Tr.node i e l r).ids.length := by
      rw [Tr.ids, List.length_cons, List.length_append]
      cases b with
      | false => show l.ids.length ≤ _; omega
      | true => show r.ids.length ≤ _; omega
    omega
theorem under_length (t : Trie) (ht : t.ok) (p : Pf) : (t.under p).length ≤ 2000000 := by
  unfold Trie.under
  split
  · rw [List.length_map]
    exact Nat.le_trans (lst_length _ _) (Nat.le_trans (sub_size _ _) (ht.size _))
  · simp
theorem pfx_child {v6 : Bool} {q : List Bool} (h : q.length < wd v6) (v : Int) : childR (pfx v6 q) v = (pfx v6 (q ++ [oddZ v]), true) := by
  unfold childR childP
  have h2 : (pfx v6 q).2.2.2 < ((wd (pfx v6 q).2.2.1 : Nat) : Int) := Int.ofNat_lt.2 h
  rw [if_pos ⟨pfx_sane (Nat.le_of_lt h), h2⟩, pfx_bits (Nat.le_of_lt h)]
  rfl
theorem pfx_leaf {v6 : Bool} {q : List Bool} (h : q.length = wd v6) (v : Int) : (childR (pfx v6 q) v).2 = false := by
  unfold childR
  have h2 : ¬ (pfx v6 q).2.2.2 < ((wd (pfx v6 q).2.2.1 : Nat) : Int) := by
    show ¬ ((q.length : Nat) : Int) < ((wd v6 : Nat) : Int)
    omega
  rw [if_neg (fun k => h2 k.2)]
theorem p_tunder : T_tunder := by
  unfold T_tunder; try dsimp only [H_SpTt_10, H_SpTt_6, H_SpTt_8, H_SpTt_5, H_SpTt_3, H_SpTt_1, H_SpTt_9, H_SpTt_4, H_SpTt_7, H_SpTt_2, H_SpTt_12]
  rintro ⟨t, p⟩ ⟨ht, hw⟩
  dsimp only at ht hw ⊢
  refine ⟨(t, p), rfl, rfl, rfl, rfl, rfl, rfl, rfl, rfl, rfl, ⟨ht, hw⟩, fun _ _ => ?_⟩
  dsimp only
  by_cases hs : saneP p = true
  rotate_left
  · have e1 : t.at' p = .nil := if_neg hs
    have e2 : t.under p = [] := if_neg hs
    rw [e1, e2]
    exact ifB_eq rfl ⟨(), trivial, rfl, rfl, trivial⟩
  have hat : t.at' p = (t.sel p).sub (bitsP p) := if_pos hs
  have hun : t.under p = (((t.sel p).sub (bitsP p)).lst (bitsP p)).map (toR p.2.2.1) := if_pos hs
  have hl := bitsP_length hs
  have hsz : (t.sel p).ids.length ≤ 2000000 := ht.size _
  rw [hat]
  by_cases hnil : (t.sel p).sub (bitsP p) = .nil
  · rw [hun, hnil]
    exact ifB_eq rfl ⟨(), trivial, rfl, rfl, trivial⟩
  refine ifB_d (fun h => absurd (Tr.ix_nil.1 h) hnil) fun _ => ?_
  have hR : ∀ {q : List Bool} {i e l r}, (t.sel p).sub q = .node i e l r → i < t.ar.length ∧ ∃ v up, t.ar.getD i nd0 = (l.ix, r.ix, up, e.isSome, v) ∧ (∀ x, e = some x → v = x) ∧ q.length ≤ wd p.2.2.1 ∧ (q.length = wd p.2.2.1 → l = .nil ∧ r = .nil) := by
    intro q i e l r h
    obtain ⟨h1, v, up, h2, h3, h4⟩ := ht.node h
    refine ⟨h1, v, up, h2, h3, h4, fun hq => ?_⟩
    have key : ∀ (s : Tr) (n : Nat), s.Deep n → s.sub q = .node i e l r → q.length = n → l = .nil ∧ r = .nil := by
      intro s n hd hsub hqn
      have := (Tr.deep_sub hd (by rw [hsub]; intro k; cases k)).2
      rw [hsub, hqn, Nat.sub_self] at this
      exact this
    unfold Trie.sel at h
    cases hv : p.2.2.1 with
    | false => rw [hv] at h hq; exact key t.t0 32 ht.deep0 h hq
    | true => rw [hv] at h hq; exact key t.t1 128 ht.deep1 h hq
  generalize hRdef : t.sel p = R at *
  generalize hv6 : p.2.2.1 = v6 at *
  generalize hU : t.under p = U at *
  have leaf : ∀ {q : List Bool}, R.sub q ≠ .nil → q.length ≤ wd v6 := by
    intro q hq
    cases hc : R.sub q with
    | nil => exact absurd hc hq
    | node i e l r => obtain ⟨_, _, _, _, _, h, _⟩ := hR hc; exact h
  have muE : ∀ qs : List (List Bool), (∀ q ∈ qs, R.sub q ≠ .nil) → ((qs.reverse.map (plOf v6 R)).map fun z => (R.sub (bitsP z.2)).ids.length).sum = sizeQ R qs := by
    intro qs hq
    unfold sizeQ
    rw [List.map_map, ← List.sum_reverse (qs.map _), ← List.map_reverse]
    congr 1
    refine List.map_congr_left fun q hm => ?_
    show (R.sub (bitsP (pfx v6 q))).ids.length = _
    rw [pfx_bits (leaf (hq q (List.mem_reverse.1 hm)))]
  refine ⟨fun x => ∃ qs : List (List Bool), x.1 = qs.reverse.map (plOf v6 R) ∧ (∀ q ∈ qs, R.sub q ≠ .nil) ∧ U = x.2 ++ (flatT R qs).map (toR v6) ∧ x.2.length + sizeQ R qs ≤ 2000000 ∧ qs.length ≤ sizeQ R qs,
    fun x => (x.1.map fun z => (R.sub (bitsP z.2)).ids.length).sum, ⟨([plOf v6 R (bitsP p)], []), ⟨[bitsP p], rfl, ?_, ?_, ?_, ?_⟩, rfl, rfl, ?_, rfl, trivial⟩, ?_⟩
  · intro q hq
    rw [List.mem_singleton.1 hq]
    exact hnil
  · rw [hun]
    simp [flatT]
  · have := sub_size (bitsP p) R
    simp only [sizeQ, List.map_cons, List.map_nil, List.sum_cons, List.sum_nil, List.length_nil]
    omega
  · have : 1 ≤ (R.sub (bitsP p)).ids.length := by
      cases hc : R.sub (bitsP p) with
      | nil => exact absurd hc hnil
      | node i e l r => simp [Tr.ids]
    simp only [sizeQ, List.map_cons, List.map_nil, List.sum_cons, List.sum_nil, List.length_singleton]
    omega
  · have e : p = pfx v6 (bitsP p) := by rw [← hv6]; exact sane_pfx hs
    have e2 : plOf v6 R (bitsP p) = plP (R.sub (bitsP p)).ix p := by unfold plOf; rw [← e]
    rw [e2, ← hv6]
    rfl
  rintro ⟨left, out⟩ ⟨qs, i0, i1, i2, i3, i4⟩
  dsimp only at i0 i2 i3 ⊢
  cases qs with
  | nil =>
    have i0 : left = [] := i0
    subst i0
    refine ifB_d (fun h => by simp at h) fun _ => ?_
    have : U = out := by rw [i2]; simp [flatT]
    rw [this]
    exact ⟨(), trivial, rfl, rfl, trivial⟩
  | cons q qs =>
    have i0 : left = qs.reverse.map (plOf v6 R) ++ [plOf v6 R q] := by rw [i0]; simp
    have hlen : left.length = qs.length + 1 := by rw [i0]; simp
    have hsq : sizeQ R (q :: qs) = (R.sub q).ids.length + sizeQ R qs := by simp [sizeQ]
    have htop : left.getD ((left.length : Int) - 1).toNat (0, 0, 0, false, 0) = plOf v6 R q := by
      rw [hlen, i0, show (((qs.length + 1 : Nat) : Int) - 1).toNat = (qs.reverse.map (plOf v6 R)).length by simp, List.getD_eq_getElem?_getD, List.getElem?_append_right (Nat.le_refl _), Nat.sub_self]
      rfl
    have htake : List.take ((left.length : Int) - 1).toNat left = qs.reverse.map (plOf v6 R) := by
      rw [hlen, i0, show (((qs.length + 1 : Nat) : Int) - 1).toNat = (qs.reverse.map (plOf v6 R)).length by simp, List.take_left]
    rw [htop, htake]
    have hqn := i1 q (by simp)
    cases hsub : R.sub q with
    | nil => exact absurd hsub hqn
    | node i e l r =>
      obtain ⟨hi, v, up, har, hv, hql, hdeep⟩ := hR hsub
      have e1 : (plOf v6 R q).1 = (i : Int) := by show (R.sub q).ix = _; rw [hsub]; rfl
      rw [e1, show ((i : Nat) : Int).toNat = i from rfl, show t.ar.getD i (0, 0, 0, false, 0) = _ from har]
      have hsize : (R.sub q).ids.length = 1 + (l.ids.length + r.ids.length) := by rw [hsub]; simp [Tr.ids]; omega
      have hfl : flatT R (q :: qs) = Tr.own q e ++ (l.lst (q ++ [false]) ++ r.lst (q ++ [true])) ++ flatT R qs := by
        unfold flatT
        rw [List.map_cons, List.flatten_cons, hsub]
        rfl
      have hsl : R.sub (q ++ [false]) = l := Tr.sub_snoc _ _ _ hsub
      have hsr : R.sub (q ++ [true]) = r := Tr.sub_snoc _ _ _ hsub
      have ll := lst_length l (q ++ [false])
      have lr := lst_length r (q ++ [true])
      -- how a round ends
      have fin : ∀ (O : List Rt) (ql qr : List (List Bool)), O = out ++ (Tr.own q e).map (toR v6) → ((l = .nil ∧ ql = []) ∨ (l ≠ .nil ∧ ql = [q ++ [false]])) → ((r = .nil ∧ qr = []) ∨ (r ≠ .nil ∧ qr = [q ++ [true]])) → ∀ (n m : Nat) (L : List Pl), L = (ql ++ (qr ++ qs)).reverse.map (plOf v6 R) → n = L.length → m = O.length →
          uE (fun x => ∃ qs : List (List Bool), x.1 = qs.reverse.map (plOf v6 R) ∧ (∀ q ∈ qs, R.sub q ≠ .nil) ∧ U = x.2 ++ (flatT R qs).map (toR v6) ∧ x.2.length + sizeQ R qs ≤ 2000000 ∧ qs.length ≤ sizeQ R qs) (fun x => (x.1.map fun z => (R.sub (bitsP z.2)).ids.length).sum) (left, out) n m L O := by
        intro O ql qr hO hql hqr n m L hL hn hm
        have f0 : ∀ t : Tr, t = .nil → t.ids.length = 0 := by rintro _ rfl; rfl
        have f1 : ∀ t : Tr, t ≠ .nil → 1 ≤ t.ids.length := by
          intro t ht
          cases t with
          | nil => exact absurd rfl ht
          | node _ _ _ _ => simp [Tr.ids]
        have hown := own_length q e
        have sl : sizeQ R ql = l.ids.length ∧ ql.length ≤ l.ids.length ∧ flatT R ql = l.lst (q ++ [false]) ∧ ∀ z ∈ ql, R.sub z ≠ .nil := by
          rcases hql with ⟨h, rfl⟩ | ⟨h, rfl⟩
          · rw [h]; exact ⟨rfl, Nat.le_refl _, rfl, fun z hz => by cases hz⟩
          · have := f1 l h
            refine ⟨by simp [sizeQ, hsl], by simpa using this, by simp [flatT, hsl], fun z hz => ?_⟩
            rw [List.mem_singleton.1 hz, hsl]
            exact h
        have sr : sizeQ R qr = r.ids.length ∧ qr.length ≤ r.ids.length ∧ flatT R qr = r.lst (q ++ [true]) ∧ ∀ z ∈ qr, R.sub z ≠ .nil := by
          rcases hqr with ⟨h, rfl⟩ | ⟨h, rfl⟩
          · rw [h]; exact ⟨rfl, Nat.le_refl _, rfl, fun z hz => by cases hz⟩
          · have := f1 r h
            refine ⟨by simp [sizeQ, hsr], by simpa using this, by simp [flatT, hsr], fun z hz => ?_⟩
            rw [List.mem_singleton.1 hz, hsr]
            exact h
        have sApp : ∀ a b : List (List Bool), sizeQ R (a ++ b) = sizeQ R a + sizeQ R b := fun a b => by simp [sizeQ]
        have fApp : ∀ a b : List (List Bool), flatT R (a ++ b) = flatT R a ++ flatT R b := fun a b => by simp [flatT]
        have hnew : ∀ z ∈ ql ++ (qr ++ qs), R.sub z ≠ .nil := by
          intro z hz
          rcases List.mem_append.1 hz with hz | hz
          · exact sl.2.2.2 z hz
          · rcases List.mem_append.1 hz with hz | hz
            · exact sr.2.2.2 z hz
            · exact i1 z (by simp [hz])
        have hO2 : O.length ≤ out.length + 1 := by
          rw [hO, List.length_append, List.length_map]
          omega
        refine ⟨(L, O), ⟨ql ++ (qr ++ qs), hL, hnew, ?_, ?_, ?_⟩, ?_, hn, hm, rfl, rfl, trivial⟩
        · dsimp only
          rw [i2, hfl, fApp, fApp, sl.2.2.1, sr.2.2.1, hO]
          simp only [List.map_append, List.append_assoc]
        · dsimp only
          rw [sApp, sApp, sl.1, sr.1]
          omega
        · rw [sApp, sApp, sl.1, sr.1]
          simp only [List.length_append]
          have := sl.2.1
          have := sr.2.1
          have : qs.length ≤ sizeQ R qs := by
            have f2 : ∀ qs : List (List Bool), (∀ q ∈ qs, R.sub q ≠ .nil) → qs.length ≤ sizeQ R qs := by
              intro qs
              induction qs with
              | nil => intro _; exact Nat.zero_le _
              | cons z qs ih =>
                intro h
                have := ih fun y hy => h y (by simp [hy])
                have := f1 _ (h z (by simp))
                simp only [sizeQ, List.map_cons, List.sum_cons, List.length_cons] at *
                omega
            exact f2 qs fun z hz => i1 z (by simp [hz])
          omega
        · show (L.map _).sum < (left.map _).sum
          have e2 : left = (q :: qs).reverse.map (plOf v6 R) := by rw [i0]; simp
          rw [hL, e2, muE _ hnew, muE _ i1, hsq, sApp, sApp, sl.1, sr.1]
          omega
      -- the two sides
      have ok0 : ∀ (O : List Rt) (m : Nat) (qr : List (List Bool)), O = out ++ (Tr.own q e).map (toR v6) → ((r = .nil ∧ qr = []) ∨ (r ≠ .nil ∧ qr = [q ++ [true]])) → ∀ (n : Nat) (L : List Pl), L = (qr ++ qs).reverse.map (plOf v6 R) → n = L.length → m = O.length →
          uS0 (fun x => ∃ qs : List (List Bool), x.1 = qs.reverse.map (plOf v6 R) ∧ (∀ q ∈ qs, R.sub q ≠ .nil) ∧ U = x.2 ++ (flatT R qs).map (toR v6) ∧ x.2.length + sizeQ R qs ≤ 2000000 ∧ qs.length ≤ sizeQ R qs) (fun x => (x.1.map fun z => (R.sub (bitsP z.2)).ids.length).sum) (left, out) (pfx v6 q) l.ix n m L O := by
        intro O m qr hO hqr n L hL hn hm
        have hqsl : qs.length ≤ 2000000 := by rw [List.length_cons] at i4; omega
        have hqrl : qr.length ≤ 1 := by rcases hqr with ⟨_, rfl⟩ | ⟨_, rfl⟩ <;> simp
        have hLl : L.length ≤ 2000001 := by rw [hL]; simp only [List.length_map, List.length_reverse, List.length_append]; omega
        refine ⟨(pfx v6 q, 0), rfl, rfl, rfl, rfl, rfl, ⟨wf_pfx hql, by dsimp only; omega, by dsimp only; omega⟩, fun _ _ => ?_⟩
        dsimp only
        by_cases hq : q.length < wd v6
        · rw [pfx_child hq]
          refine ifB_tb rfl (ifB_nd (fun hk => ⟨⟨by rw [List.length_singleton]; omega, by rw [List.length_singleton]; omega⟩, by decide, ?_⟩) fun hk => ⟨by decide, ?_⟩)
          · have hlne : l ≠ .nil := fun k => hk (Tr.ix_nil.2 k)
            refine fin O [q ++ [false]] qr hO (.inr ⟨hlne, rfl⟩) hqr _ _ _ ?_ ?_ hm
            · rw [hL]
              simp [plOf, hsl, oddZ]
            · rw [List.length_append, hn]
          · have hlne : l = .nil := Tr.ix_nil.1 hk
            exact fin O [] qr hO (.inl ⟨hlne, rfl⟩) hqr _ _ _ hL hn hm
        · have hq : q.length = wd v6 := by omega
          refine ifB_fb (pfx_leaf hq 0) ⟨by decide, fin O [] qr hO (.inl ⟨(hdeep hq).1, rfl⟩) hqr _ _ _ hL hn hm⟩
      have ok1 : ∀ (O : List Rt) (m : Nat), O = out ++ (Tr.own q e).map (toR v6) → m = O.length → ∀ (n : Nat), n = qs.length →
          uS1 (fun x => ∃ qs : List (List Bool), x.1 = qs.reverse.map (plOf v6 R) ∧ (∀ q ∈ qs, R.sub q ≠ .nil) ∧ U = x.2 ++ (flatT R qs).map (toR v6) ∧ x.2.length + sizeQ R qs ≤ 2000000 ∧ qs.length ≤ sizeQ R qs) (fun x => (x.1.map fun z => (R.sub (bitsP z.2)).ids.length).sum) (left, out) (pfx v6 q) l.ix r.ix n m (qs.reverse.map (plOf v6 R)) O := by
        intro O m hO hm n hn
        have hqsl : qs.length ≤ 2000000 := by rw [List.length_cons] at i4; omega
        refine ⟨(pfx v6 q, 1), rfl, rfl, rfl, rfl, rfl, ⟨wf_pfx hql, by dsimp only; omega, by dsimp only; omega⟩, fun _ _ => ?_⟩
        dsimp only
        by_cases hq : q.length < wd v6
        · rw [pfx_child hq]
          refine ifB_tb rfl (ifB_nd (fun hk => ⟨⟨by rw [List.length_singleton]; omega, by rw [List.length_singleton]; omega⟩, by decide, ?_⟩) fun hk => ⟨by decide, ?_⟩)
          · have hrne : r ≠ .nil := fun k => hk (Tr.ix_nil.2 k)
            refine ok0 O m [q ++ [true]] hO (.inr ⟨hrne, rfl⟩) _ _ ?_ ?_ hm
            · simp [plOf, hsr, oddZ]
            · simp [hn]
          · have hrne : r = .nil := Tr.ix_nil.1 hk
            exact ok0 O m [] hO (.inl ⟨hrne, rfl⟩) _ _ rfl (by simp [hn]) hm
        · have hq : q.length = wd v6 := by omega
          exact ifB_fb (pfx_leaf hq 1) ⟨by decide, ok0 O m [] hO (.inl ⟨(hdeep hq).2, rfl⟩) _ _ rfl (by simp [hn]) hm⟩
      have hol : out.length ≤ 2000000 := by omega
      have hqsl : qs.length ≤ 2000000 := by rw [List.length_cons] at i4; omega
      refine ifB_d (fun _ => ⟨by omega, by omega, by omega, by omega, by omega, ?_⟩) fun h => by omega
      cases e with
      | none => exact ifB_fb rfl (ok1 out out.length (by simp [Tr.own]) rfl _ (by omega))
      | some u =>
        have hv := hv u rfl
        subst hv
        refine ifB_tb rfl ⟨⟨by rw [List.length_singleton]; omega, by rw [List.length_singleton]; omega⟩, ?_⟩
        exact ok1 (out ++ [toR v6 (q, v)]) _ (by simp [Tr.own]) (by rw [List.length_append]; rfl) _ (by omega)
theorem GT2 : Goods Tryz.prog T2 := goods_cons (good_of_owes hM hP GT1a Tryz.func163 rfl (o_tget ▸ p_tget)) (goods_cons (good_of_owes hM hP GT1a Tryz.func213 rfl (o_tinside ▸ p_tinside)) (goods_cons (good_of_owes hM hP GT1a Tryz.func96 rfl (o_tunder ▸ p_tunder)) (goods_cons (good_of_owes hM hP GT1a Tryz.func177 rfl (o_tlongest ▸ p_tlongest)) GT1a)))
end Sp
end
section
set_option linter.all false
set_option maxRecDepth 10000
namespace Sp
namespace Tr
def upd (f : Tr → Tr) : List Bool → Tr → Tr
  | [], t => f t
  | _ :: _, nil => nil
  | b :: p, node i e l r => if b = true then node i e l (upd f p r) else node i e (upd f p l) r
theorem upd_cons (f : Tr → Tr) (b : Bool) (p : List Bool) (i : Nat) (e : Option Int) (l r : Tr) : upd f (b :: p) (node i e l r) = if b = true then node i e l (upd f p r) else node i e (upd f p l) r := rfl
theorem upd_at {f : Tr → Tr} : ∀ {p : List Bool} {t : Tr} (s : List Bool), t.sub p ≠ nil → (upd f p t).sub (p ++ s) = (f (t.sub p)).sub s
  | [], t, s, _ => rfl
  | b :: p, nil, s, h => absurd (sub_nil _) h
  | b :: p, node i e l r, s, h => by
    rw [upd_cons, List.cons_append, sub_cons, sub_cons] at *
    cases b with
    | true => exact upd_at (t := r) s h
    | false => exact upd_at (t := l) s h
theorem upd_nil {f : Tr → Tr} : ∀ {p : List Bool} {t : Tr}, t.sub p ≠ nil → f (t.sub p) ≠ nil → (upd f p t = nil ↔ t = nil)
  | [], t, h, hf => ⟨fun k => absurd k hf, fun k => absurd k h⟩
  | b :: p, nil, h, _ => absurd (sub_nil _) h
  | b :: p, node i e l r, h, hf => by
    rw [upd_cons]
    constructor
    · intro k; split at k <;> cases k
    · intro k; cases k
theorem upd_else {f : Tr → Tr} : ∀ {p : List Bool} {t : Tr} {q : List Bool}, t.sub p ≠ nil → f (t.sub p) ≠ nil → ¬ p <+: q → match t.sub q, (upd f p t).sub q with
    | nil, nil => True
    | node i e l r, node i' e' l' r' => i = i' ∧ e = e' ∧ (l = nil ↔ l' = nil) ∧ (r = nil ↔ r' = nil)
    | _, _ => False
  | [], t, q, _, _, hq => absurd (List.nil_prefix) hq
  | b :: p, nil, q, h, _, _ => absurd (sub_nil _) h
  | b :: p, node i e l r, [], h, hf, _ => by
    have hu := fun t' h' hf' => upd_nil (f := f) (p := p) (t := t') h' hf'
    rw [sub_cons] at h hf
    show match node i e l r, upd f (b :: p) (node i e l r) with
      | nil, nil => True
      | node i e l r, node i' e' l' r' => i = i' ∧ e = e' ∧ (l = nil ↔ l' = nil) ∧ (r = nil ↔ r' = nil)
      | _, _ => False
    cases b with
    | true => exact ⟨rfl, rfl, Iff.rfl, (hu r h hf).symm⟩
    | false => exact ⟨rfl, rfl, (hu l h hf).symm, Iff.rfl⟩
  | b :: p, node i e l r, c :: q, h, hf, hq => by
    rw [sub_cons] at h hf
    rw [sub_cons, sub_cons, upd_cons]
    by_cases hbc : b = c
    · subst hbc
      have hq' : ¬ p <+: q := fun k => hq (List.cons_prefix_cons.2 ⟨rfl, k⟩)
      cases b with
      | true => exact upd_else (t := r) h hf hq'
      | false => exact upd_else (t := l) h hf hq'
    · have same : ∀ t' : Tr, match t', t' with
          | nil, nil => True
          | node i e l r, node i' e' l' r' => i = i' ∧ e = e' ∧ (l = nil ↔ l' = nil) ∧ (r = nil ↔ r' = nil)
          | _, _ => False := by
        intro t'
        cases t' with
        | nil => trivial
        | node _ _ _ _ => exact ⟨rfl, rfl, Iff.rfl, Iff.rfl⟩
      cases b <;> cases c
      · exact absurd rfl hbc
      · exact same _
      · exact same _
      · exact absurd rfl hbc
theorem upd_get {f : Tr → Tr} {p : List Bool} {t : Tr} {q : List Bool} (h : t.sub p ≠ nil) (hf : f (t.sub p) ≠ nil) (hq : ¬ p <+: q) : (upd f p t).get q = t.get q := by
  have := upd_else h hf hq
  unfold get
  cases h1 : t.sub q with
  | nil =>
    cases h2 : (upd f p t).sub q with
    | nil => rfl
    | node i e l r => rw [h1, h2] at this; exact this.elim
  | node i e l r =>
    cases h2 : (upd f p t).sub q with
    | nil => rw [h1, h2] at this; exact this.elim
    | node i' e' l' r' => rw [h1, h2] at this; exact this.2.1.symm
theorem upd_get_at {f : Tr → Tr} {p : List Bool} {t : Tr} (s : List Bool) (h : t.sub p ≠ nil) : (upd f p t).get (p ++ s) = (f (t.sub p)).get s := by
  unfold get
  rw [upd_at s h]
theorem upd_ix {f : Tr → Tr} : ∀ {p : List Bool} {t : Tr}, (f (t.sub p)).ix = (t.sub p).ix → (upd f p t).ix = t.ix
  | [], t, h => h
  | b :: p, nil, h => rfl
  | b :: p, node i e l r, h => by rw [upd_cons]; split <;> rfl
theorem upd_deep {f : Tr → Tr} : ∀ {p : List Bool} {t : Tr} {n : Nat}, t.Deep n → t.sub p ≠ nil → (f (t.sub p)).Deep (n - p.length) → (upd f p t).Deep n
  | [], t, n, _, _, h => h
  | b :: p, nil, n, _, h, _ => absurd (sub_nil _) h
  | b :: p, node i e l r, 0, h, hs, _ => by
    obtain ⟨rfl, rfl⟩ := h
    refine absurd ?_ hs
    rw [sub_cons]
    show (if b = true then nil else nil).sub p = nil
    rw [ite_self, sub_nil]
  | b :: p, node i e l r, n + 1, h, hs, hf => by
    rw [sub_cons] at hs hf
    rw [List.length_cons, Nat.add_sub_add_right] at hf
    rw [upd_cons]
    cases b with
    | true => exact ⟨h.1, upd_deep (t := r) h.2 hs hf⟩
    | false => exact ⟨upd_deep (t := l) h.1 hs hf, h.2⟩
theorem upd_ids : ∀ (p : List Bool) (t : Tr), t.sub p ≠ nil → ∃ rest : List Nat, ∀ f : Tr → Tr, (upd f p t).ids.Perm ((f (t.sub p)).ids ++ rest)
  | [], t, _ => ⟨[], fun f => by rw [List.append_nil]; exact List.Perm.refl _⟩
  | b :: p, nil, h => absurd (sub_nil _) h
  | b :: p, node i e l r, h => by
    rw [sub_cons] at h
    cases b with
    | true =>
      obtain ⟨rest, hr⟩ := upd_ids p r h
      refine ⟨i :: (l.ids ++ rest), fun f => ?_⟩
      show (i :: (l.ids ++ (upd f p r).ids)).Perm _
      have h1 : (l.ids ++ (upd f p r).ids).Perm (l.ids ++ ((f (r.sub p)).ids ++ rest)) := (hr f).append_left _
      have h2 : (l.ids ++ ((f (r.sub p)).ids ++ rest)).Perm ((f (r.sub p)).ids ++ (l.ids ++ rest)) := by
        rw [← List.append_assoc, ← List.append_assoc]
        exact List.perm_append_comm.append_right _
      exact ((h1.trans h2).cons i).trans List.perm_middle.symm
    | false =>
      obtain ⟨rest, hr⟩ := upd_ids p l h
      refine ⟨i :: (rest ++ r.ids), fun f => ?_⟩
      show (i :: ((upd f p l).ids ++ r.ids)).Perm _
      have h1 : ((upd f p l).ids ++ r.ids).Perm (((f (l.sub p)).ids ++ rest) ++ r.ids) := (hr f).append_right _
      rw [List.append_assoc] at h1
      exact (h1.cons i).trans List.perm_middle.symm
theorem upd_id : ∀ (p : List Bool) (t : Tr), upd id p t = t
  | [], t => rfl
  | b :: p, nil => rfl
  | b :: p, node i e l r => by
    rw [upd_cons]
    split
    · rw [upd_id p r]
    · rw [upd_id p l]
theorem rep_same {ar ar' : List Nd} : ∀ {t : Tr} {up : Int}, t.Rep ar up → (∀ k ∈ t.ids, k < ar'.length ∧ ar'.getD k nd0 = ar.getD k nd0) → t.Rep ar' up
  | nil, _, _, _ => trivial
  | node i e l r, up, ⟨⟨h1, h2⟩, hl, hr⟩, h => by
    obtain ⟨q1, q2⟩ := h i (by simp [ids])
    exact ⟨⟨q1, by rw [q2]; exact h2⟩, rep_same hl fun k hk => h k (by simp [ids, hk]), rep_same hr fun k hk => h k (by simp [ids, hk])⟩
def upOf (t : Tr) (up : Int) (p : List Bool) : Int := match p with
  | [] => up
  | _ :: _ => (t.sub p.dropLast).ix
theorem rep_at {ar : List Nd} : ∀ {p : List Bool} {t : Tr} {up : Int}, t.Rep ar up → (t.sub p).Rep ar (t.upOf up p)
  | [], t, up, h => h
  | b :: p, nil, up, h => by rw [sub_nil]; trivial
  | b :: p, node i e l r, up, ⟨_, hl, hr⟩ => by
    rw [sub_cons]
    have e1 : (node i e l r).upOf up (b :: p) = ((node i e l r).go b).upOf i p := by
      cases p with
      | nil => rfl
      | cons c p => rfl
    rw [e1]
    cases b with
    | true => exact rep_at (t := r) hr
    | false => exact rep_at (t := l) hl
theorem upd_rep {ar ar' : List Nd} {f : Tr → Tr} : ∀ {p : List Bool} {t : Tr} {up : Int}, t.Rep ar up → t.ids.Nodup → t.sub p ≠ nil → (∀ k ∈ t.ids, k ∉ (t.sub p).ids → k < ar'.length ∧ ar'.getD k nd0 = ar.getD k nd0) → (f (t.sub p)).ix = (t.sub p).ix → (f (t.sub p)).Rep ar' (t.upOf up p) → (upd f p t).Rep ar' up
  | [], t, up, _, _, _, _, _, h => h
  | b :: p, nil, up, _, _, h, _, _, _ => absurd (sub_nil _) h
  | b :: p, node i e l r, up, ⟨⟨h1, h2⟩, hl, hr⟩, hn, hs, hk, hix, hf => by
    rw [sub_cons] at hs hk hix hf
    have hn := List.nodup_cons.1 hn
    have hn2 := List.nodup_append.1 hn.2
    have e1 : (node i e l r).upOf up (b :: p) = ((node i e l r).go b).upOf i p := by
      cases p with
      | nil => rfl
      | cons c p => rfl
    rw [e1] at hf
    have inSub : ∀ (t' : Tr) k, k ∈ (t'.sub p).ids → k ∈ t'.ids := by
      intro t' k hk'
      by_cases hne : t'.sub p = nil
      · rw [hne] at hk'; cases hk'
      · obtain ⟨rest, hr⟩ := upd_ids p t' hne
        have := hr id
        rw [upd_id] at this
        exact this.mem_iff.2 (List.mem_append_left _ hk')
    rw [upd_cons]
    cases b with
    | true =>
      have hi : i ∉ (r.sub p).ids := fun k => hn.1 (List.mem_append_right _ (inSub r i k))
      obtain ⟨q1, q2⟩ := hk i (by simp [ids]) hi
      refine ⟨⟨q1, by rw [q2, upd_ix (t := r) hix]; exact h2⟩, rep_same hl fun k hkl => hk k (by simp [ids, hkl]) fun hkr => hn2.2.2 k hkl k (inSub r k hkr) rfl, upd_rep (t := r) hr hn2.2.1 hs (fun k hkr hnk => hk k (by simp [ids, hkr]) hnk) hix hf⟩
    | false =>
      have hi : i ∉ (l.sub p).ids := fun k => hn.1 (List.mem_append_left _ (inSub l i k))
      obtain ⟨q1, q2⟩ := hk i (by simp [ids]) hi
      refine ⟨⟨q1, by rw [q2, upd_ix (t := l) hix]; exact h2⟩, upd_rep (t := l) hl hn2.1 hs (fun k hkl hnk => hk k (by simp [ids, hkl]) hnk) hix hf, rep_same hr fun k hkr => hk k (by simp [ids, hkr]) fun hkl => hn2.2.2 k (inSub l k hkl) k hkr rfl⟩
end Tr
end Sp
end
section
set_option linter.all false
namespace Sp
open Go Go.Proofs Sx Go.Proofs.YthnhbnakpmkppaaGreat.Ma
@[reducible] def trRw (t : Trie) : List Ob := [trC 1 2 t, .row true ndK t.ar, .row true intK t.fr]
@[reducible] def trOut (t : Trie) : List (Nat × Ob) := [(0, trC 3 4 t), (1, .gone), (2, .gone), (3, .row true ndK t.ar), (4, .row true intK t.fr)]
def frn (up : Int) : Nd := (-1, -1, up, false, 0)
def Trie.take (t : Trie) (up : Int) : Trie := match t.fr with
  | [] => { t with ar := t.ar ++ [frn up] }
  | _ :: _ => { t with ar := t.ar.set (t.fr.getLastD 0).toNat (frn up), fr := t.fr.dropLast }
def Trie.takeAt (t : Trie) : Int := match t.fr with
  | [] => t.ar.length
  | _ :: _ => t.fr.getLastD 0
def TakeT : Con := { X := Trie × Int, args := fun x => [.one (.p 0 0), .i .i64 x.2], heap := fun x => trRw x.1, pre := fun x => (∀ y ∈ x.1.fr, 0 ≤ y ∧ y.toNat < x.1.ar.length) ∧ x.1.ar.length ≤ 2000000 ∧ x.1.fr.length ≤ 2000000, outs := [{ Y := Unit, post := fun _ _ => True, res := fun x _ => .i .i64 x.1.takeAt, out := fun x _ => trOut (x.1.take x.2), nn := 2 }] }
def Trie.get (t : Trie) (v6 : Bool) (q : List Bool) : Option Int := (tsel t.t0 t.t1 v6).get q
structure PutP (t : Trie) (p : Pf) (v : Int) (u : Trie) : Prop where
  ok : u.ok
  get : ∀ v6 q, u.get v6 q = if v6 = p.2.2.1 ∧ q = bitsP p then some v else t.get v6 q
  n : u.n = if (t.get p.2.2.1 (bitsP p)).isSome = true then t.n else t.n + 1
  more : u.ar.length ≤ t.ar.length + 128 ∧ u.fr.length ≤ t.fr.length
structure DelP (t : Trie) (p : Pf) (u : Trie) : Prop where
  ok : u.ok
  get : ∀ v6 q, u.get v6 q = if v6 = p.2.2.1 ∧ q = bitsP p then none else t.get v6 q
  n : u.n = if (t.get p.2.2.1 (bitsP p)).isSome = true then t.n - 1 else t.n
  more : u.ar.length = t.ar.length ∧ u.fr.length ≤ t.fr.length + 128
@[reducible] def Trie.room (t : Trie) : Prop := t.ok ∧ t.ar.length ≤ 1000000 ∧ t.fr.length ≤ 1000000 ∧ 0 ≤ t.n ∧ t.n ≤ 1000000
def PutT : Con := { X := Trie × Pf × Int, args := fun x => [.one (.p 0 0), .agg (pfV x.2.1), .i .i64 x.2.2], heap := fun x => trRw x.1, pre := fun x => x.1.room ∧ wfP x.2.1, outs := [{ Y := Trie, post := fun x u => ifB (saneP x.2.1) (PutP x.1 x.2.1 x.2.2 u) (u = x.1), res := fun x _ => .i .i64 (if saneP x.2.1 = true then 0 else 1), out := fun _ u => trOut u, nn := 2 }] }
def DelT : Con := { X := Trie × Pf, args := fun x => [.one (.p 0 0), .agg (pfV x.2)], heap := fun x => trRw x.1, pre := fun x => x.1.room ∧ wfP x.2, outs := [{ Y := Trie, post := fun x u => ifB (saneP x.2) (DelP x.1 x.2 u) (u = x.1), res := fun x _ => .i .i64 (if saneP x.2 = true then (if (x.1.get x.2.2.2.1 (bitsP x.2)).isSome = true then 0 else 2) else 1), out := fun _ u => trOut u, nn := 2 }] }
structure PruneP (t : Trie) (q : List Bool) (u : Trie) : Prop where
  ok : u.ok
  get : ∀ v6 q', u.get v6 q' = t.get v6 q'
  n : u.n = t.n
  more : u.ar.length = t.ar.length ∧ u.fr.length ≤ t.fr.length + q.length
structure PruneQ (t : Trie) (v6 : Bool) (q : List Bool) (at' : Int) : Prop where
  base : TRb t.ar t.fr t.t0 t.t1
  live : ∀ v, LiveB (tsel t.t0 t.t1 v) (if v = v6 then q else [])
  node : (tsel t.t0 t.t1 v6).sub q ≠ .nil
  here : at' = ((tsel t.t0 t.t1 v6).sub q).ix
  small : t.ar.length ≤ 1000000 ∧ t.fr.length ≤ 1000000 ∧ q.length ≤ 128
def PruneT : Con := { X := Trie × Bool × List Bool × Int, args := fun x => [.one (.p 0 0), .i .i64 x.2.2.2], heap := fun x => trRw x.1, pre := fun x => PruneQ x.1 x.2.1 x.2.2.1 x.2.2.2, outs := [{ Y := Trie, post := fun x u => PruneP x.1 x.2.2.1 u, res := fun _ _ => .tup [], out := fun _ u => trOut u, nn := 2 }] }
def LenT : Con := .look Trie (fun _ => [.one (.p 0 0)]) trRo Trie.ok fun t => .i .i64 t.n
def T3 : List (Nat × Con) := (224, TakeT) :: (265, PruneT) :: T2
def T4 : List (Nat × Con) := (160, PutT) :: (211, DelT) :: (263, LenT) :: T3
def LqTm : FuncId → Nat → Lan
  | 160, 0 => .inv { X := Int × Int × Trie, slots := [7, 26], vals := fun x => [.i .i64 x.1, .i .i64 x.2.1], fix := [0], new := [20, 21], drop := [1, 2], obs := fun x => [trC 20 21 x.2.2, .row true ndK x.2.2.ar, .row true intK x.2.2.fr] }
  | 265, 0 => .inv { X := Int × Trie, slots := [1], vals := fun x => [.i .i64 x.1], fix := [0, 1], new := [21], drop := [2], obs := fun x => [trC 1 21 x.2, .row true ndK x.2.ar, .row true intK x.2.fr] }
  | 265, _ => .unroll 3
  | _, _ => .none
end Sp
end
section
set_option linter.all false
set_option maxRecDepth 10000
namespace Sp
def bLtB : List Bool → List Bool → Bool
  | [], [] => false
  | [], _ :: _ => true
  | _ :: _, [] => false
  | false :: a, false :: b => bLtB a b
  | true :: a, true :: b => bLtB a b
  | false :: _, true :: _ => true
  | true :: _, false :: _ => false
theorem bLtB_iff : ∀ {a b : List Bool}, bLtB a b = true ↔ bLt a b
  | [], [] => by simp [bLtB, bLt]
  | [], _ :: _ => by simp [bLtB, bLt]
  | _ :: _, [] => by simp [bLtB, bLt]
  | false :: a, false :: b => bLtB_iff (a := a) (b := b)
  | true :: a, true :: b => bLtB_iff (a := a) (b := b)
  | false :: _, true :: _ => by simp [bLtB, bLt]
  | true :: _, false :: _ => by simp [bLtB, bLt]
def pLtB (p q : Pf) : Bool := if p.2.2.1 = q.2.2.1 then bLtB (bitsP p) (bitsP q) else !p.2.2.1
theorem pLtB_same {p q : Pf} (h : p.2.2.1 = q.2.2.1) : pLtB p q = true ↔ bLt (bitsP p) (bitsP q) := by unfold pLtB; rw [if_pos h, bLtB_iff]
theorem pLtB_irrefl (p : Pf) : ¬ pLtB p p = true := fun h => bLt_irrefl _ ((pLtB_same rfl).1 h)
theorem pLtB_trans {p q r : Pf} (h : pLtB p q = true) (k : pLtB q r = true) : pLtB p r = true := by
  unfold pLtB at *
  obtain ⟨p1, p2, p6, pn⟩ := p
  obtain ⟨q1, q2, q6, qn⟩ := q
  obtain ⟨r1, r2, r6, rn⟩ := r
  dsimp only at *
  cases p6 <;> cases q6 <;> cases r6 <;> simp at h k ⊢
  · exact bLtB_iff.2 (bLt_trans (bLtB_iff.1 h) (bLtB_iff.1 k))
  · exact bLtB_iff.2 (bLt_trans (bLtB_iff.1 h) (bLtB_iff.1 k))
theorem sane_same {p q : Pf} (hp : saneP p = true) (hq : saneP q = true) (h6 : p.2.2.1 = q.2.2.1) (hb : bitsP p = bitsP q) : p = q := by
  rw [sane_pfx hp, sane_pfx hq, h6, hb]
theorem pLtB_total {p q : Pf} (hp : saneP p = true) (hq : saneP q = true) : pLtB p q = true ∨ p = q ∨ pLtB q p = true := by
  by_cases h6 : p.2.2.1 = q.2.2.1
  · rcases bLt_total (bitsP p) (bitsP q) with h | h | h
    · exact .inl ((pLtB_same h6).2 h)
    · exact .inr (.inl (sane_same hp hq h6 h))
    · exact .inr (.inr ((pLtB_same h6.symm).2 h))
  · unfold pLtB
    rw [if_neg h6, if_neg (fun e => h6 e.symm)]
    cases h1 : p.2.2.1 <;> cases h2 : q.2.2.1 <;> simp_all
def Srt (e : List Rt) : Prop := e.Pairwise fun a b => pLtB (rP a) (rP b) = true
def Snn (e : List Rt) : Prop := ∀ r ∈ e, saneP (rP r) = true
theorem srt_same {l m : List Rt} (hl : Srt l) (hm : Srt m) (h : ∀ x, x ∈ l ↔ x ∈ m) : l = m := sorted_same (r := fun a b => pLtB (rP a) (rP b) = true) (fun a => pLtB_irrefl _) (fun _ _ _ h k => pLtB_trans h k) hl hm h
theorem srt_inj {e : List Rt} (h : Srt e) : ∀ x ∈ e, ∀ y ∈ e, rP x = rP y → x = y := by
  induction e with
  | nil => intro x hx; cases hx
  | cons a e ih =>
    obtain ⟨h1, h2⟩ := List.pairwise_cons.1 h
    intro x hx y hy he
    rcases List.mem_cons.1 hx with ex | hx <;> rcases List.mem_cons.1 hy with ey | hy
    · rw [ex, ey]
    · exact absurd (h1 y hy) (by rw [← ex, he]; exact pLtB_irrefl _)
    · exact absurd (h1 x hx) (by rw [← ey, he]; exact pLtB_irrefl _)
    · exact ih h2 x hx y hy he
theorem srt_nodup {e : List Rt} (h : Srt e) : e.Nodup := h.imp fun {a b} h e => by subst e; exact pLtB_irrefl _ h
def ltE (e : List Rt) (r : Rt) : List Rt := e.filter fun x => pLtB (rP x) (rP r)
def gtE (e : List Rt) (r : Rt) : List Rt := e.filter fun x => pLtB (rP r) (rP x)
def insE (e : List Rt) (r : Rt) : List Rt := ltE e r ++ r :: gtE e r
def delE (e : List Rt) (p : Pf) : List Rt := e.filter fun x => !decide (rP x = p)
def getE (e : List Rt) (p : Pf) : Option Rt := e.find? fun x => decide (rP x = p)
def abvE (e : List Rt) (p : Pf) : List Rt := e.filter fun x => coversP (rP x) p
def undE (e : List Rt) (p : Pf) : List Rt := e.filter fun x => coversP p (rP x)
theorem mem_ltE {e : List Rt} {r x : Rt} : x ∈ ltE e r ↔ x ∈ e ∧ pLtB (rP x) (rP r) = true := by unfold ltE; rw [List.mem_filter]
theorem mem_gtE {e : List Rt} {r x : Rt} : x ∈ gtE e r ↔ x ∈ e ∧ pLtB (rP r) (rP x) = true := by unfold gtE; rw [List.mem_filter]
theorem mem_delE {e : List Rt} {p : Pf} {x : Rt} : x ∈ delE e p ↔ x ∈ e ∧ rP x ≠ p := by unfold delE; rw [List.mem_filter]; simp
theorem mem_insE {e : List Rt} (hs : Snn e) {r x : Rt} (hr : saneP (rP r) = true) : x ∈ insE e r ↔ x = r ∨ (x ∈ e ∧ rP x ≠ rP r) := by
  unfold insE
  rw [List.mem_append, List.mem_cons, mem_ltE, mem_gtE]
  constructor
  · rintro (⟨h1, h2⟩ | rfl | ⟨h1, h2⟩)
    · exact .inr ⟨h1, fun e => pLtB_irrefl _ (e ▸ h2)⟩
    · exact .inl rfl
    · exact .inr ⟨h1, fun e => pLtB_irrefl _ (e ▸ h2)⟩
  · rintro (rfl | ⟨h1, h2⟩)
    · exact .inr (.inl rfl)
    · rcases pLtB_total (hs x h1) hr with h | h | h
      · exact .inl ⟨h1, h⟩
      · exact absurd h h2
      · exact .inr (.inr ⟨h1, h⟩)
theorem srt_filter {e : List Rt} (h : Srt e) (f : Rt → Bool) : Srt (e.filter f) := List.Pairwise.filter f h
theorem srt_insE {e : List Rt} (h : Srt e) (r : Rt) : Srt (insE e r) := by
  unfold insE
  refine List.pairwise_append.2 ⟨srt_filter h _, List.pairwise_cons.2 ⟨fun x hx => (mem_gtE.1 hx).2, srt_filter h _⟩, fun x hx y hy => ?_⟩
  rcases List.mem_cons.1 hy with rfl | hy
  · exact (mem_ltE.1 hx).2
  · exact pLtB_trans (mem_ltE.1 hx).2 (mem_gtE.1 hy).2
theorem snn_insE {e : List Rt} (hs : Snn e) {r : Rt} (hr : saneP (rP r) = true) : Snn (insE e r) := fun x hx => by
  rcases (mem_insE hs hr).1 hx with rfl | ⟨h, _⟩
  · exact hr
  · exact hs x h
theorem snn_filter {e : List Rt} (hs : Snn e) (f : Rt → Bool) : Snn (e.filter f) := fun x hx => hs x ((List.mem_filter.1 hx).1)
theorem srt_delE {e : List Rt} (h : Srt e) (p : Pf) : Srt (delE e p) := srt_filter h _
theorem split_E {e : List Rt} (h : Srt e) (hs : Snn e) {r : Rt} (hr : saneP (rP r) = true) : delE e (rP r) = ltE e r ++ gtE e r ∧ (∀ x ∈ e, rP x = rP r → e = ltE e r ++ x :: gtE e r) := by
  have s2 : Srt (ltE e r ++ gtE e r) := List.pairwise_append.2 ⟨srt_filter h _, srt_filter h _, fun x hx y hy => pLtB_trans (mem_ltE.1 hx).2 (mem_gtE.1 hy).2⟩
  refine ⟨srt_same (srt_delE h _) s2 fun x => ?_, fun x hx he => srt_same h ?_ fun y => ?_⟩
  · rw [mem_delE, List.mem_append, mem_ltE, mem_gtE]
    constructor
    · rintro ⟨h1, h2⟩
      rcases pLtB_total (hs x h1) hr with h | h | h
      · exact .inl ⟨h1, h⟩
      · exact absurd h h2
      · exact .inr ⟨h1, h⟩
    · rintro (⟨h1, h2⟩ | ⟨h1, h2⟩)
      · exact ⟨h1, fun e => pLtB_irrefl _ (e ▸ h2)⟩
      · exact ⟨h1, fun e => pLtB_irrefl _ (e ▸ h2)⟩
  · refine List.pairwise_append.2 ⟨srt_filter h _, List.pairwise_cons.2 ⟨fun y hy => by rw [he]; exact (mem_gtE.1 hy).2, srt_filter h _⟩, fun z hz y hy => ?_⟩
    rcases List.mem_cons.1 hy with rfl | hy
    · rw [he]; exact (mem_ltE.1 hz).2
    · exact pLtB_trans (mem_ltE.1 hz).2 (mem_gtE.1 hy).2
  · rw [List.mem_append, List.mem_cons, mem_ltE, mem_gtE]
    constructor
    · intro hy
      rcases pLtB_total (hs y hy) hr with k | k | k
      · exact .inl ⟨hy, k⟩
      · exact .inr (.inl (srt_inj h y hy x hx (by rw [k, he])))
      · exact .inr (.inr ⟨hy, k⟩)
    · rintro (⟨k, _⟩ | rfl | ⟨k, _⟩)
      · exact k
      · exact hx
      · exact k
theorem getE_some {e : List Rt} {p : Pf} {x : Rt} (h : getE e p = some x) : x ∈ e ∧ rP x = p := ⟨List.mem_of_find?_eq_some h, by simpa using List.find?_some h⟩
theorem getE_none {e : List Rt} {p : Pf} (h : getE e p = none) : ∀ x ∈ e, rP x ≠ p := by
  intro x hx
  have := List.find?_eq_none.1 h x hx
  simpa using this
theorem getE_of {e : List Rt} (h : Srt e) {x : Rt} (hx : x ∈ e) : getE e (rP x) = some x := by
  cases hg : getE e (rP x) with
  | none => exact absurd rfl (getE_none hg x hx)
  | some y =>
    obtain ⟨h1, h2⟩ := getE_some hg
    rw [srt_inj h y h1 x hx h2]
theorem del_same {e : List Rt} {p : Pf} (h : getE e p = none) : delE e p = e := by
  unfold delE
  refine List.filter_eq_self.2 fun x hx => ?_
  have := getE_none h x hx
  simpa using this
theorem lens_E {e : List Rt} (h : Srt e) (hs : Snn e) {r : Rt} (hr : saneP (rP r) = true) : (insE e r).length = (if (getE e (rP r)).isSome = true then e.length else e.length + 1) ∧ (delE e (rP r)).length = (if (getE e (rP r)).isSome = true then e.length - 1 else e.length) ∧ ((getE e (rP r)).isSome = true → 0 < e.length) := by
  obtain ⟨h1, h2⟩ := split_E h hs hr
  have li : (insE e r).length = (delE e (rP r)).length + 1 := by rw [h1]; unfold insE; simp; omega
  cases hg : getE e (rP r) with
  | none =>
    have := del_same hg
    refine ⟨?_, ?_, fun h => by cases h⟩
    · rw [li, this]; rfl
    · rw [this]; rfl
  | some x =>
    obtain ⟨g1, g2⟩ := getE_some hg
    have e1 := h2 x g1 g2
    have e2 : e.length = (delE e (rP r)).length + 1 := by rw [h1]; conv => lhs; rw [e1]
                                                          simp; omega
    refine ⟨?_, ?_, fun _ => by omega⟩
    · rw [li]; show _ = e.length; omega
    · show _ = e.length - 1; omega
/-! ### covering -/
theorem contains_iff {p : Pf} {a : Ad} (hp : saneP p = true) : containsP p a = true ↔ p.2.2.1 = a.2.2 ∧ bitsP p = (bitsA a).take p.2.2.2.toNat := by
  unfold containsP
  rw [hp, Bool.true_and, decide_eq_true_eq, ofPf_pfx]
  obtain ⟨h1, h2⟩ := bitsP_length hp
  constructor
  · intro h
    have h6 : p.2.2.1 = a.2.2 := congrArg (fun p : Pf => p.2.2.1) h
    refine ⟨h6, ?_⟩
    have := congrArg bitsP h
    rw [pfx_bits (by rw [List.length_take, bitsA_length]; omega)] at this
    exact this
  · rintro ⟨h6, hb⟩
    rw [← hb, ← h6]
    exact sane_pfx hp
theorem covers_iff {p q : Pf} : coversP p q = true ↔ saneP p = true ∧ saneP q = true ∧ p.2.2.1 = q.2.2.1 ∧ bitsP p <+: bitsP q := by
  unfold coversP
  constructor
  · intro h
    simp only [Bool.and_eq_true, decide_eq_true_eq] at h
    obtain ⟨h1, h2, h3⟩ := h
    have hp : saneP p = true := by unfold containsP at h3; simp only [Bool.and_eq_true] at h3; exact h3.1
    obtain ⟨k1, k2⟩ := (contains_iff hp).1 h3
    refine ⟨hp, h2, k1, ?_⟩
    rw [k2]
    have : (bitsA (pA q)).take p.2.2.2.toNat = (bitsP q).take p.2.2.2.toNat := by
      unfold bitsP
      rw [List.take_take, Nat.min_eq_left (by omega)]
    rw [this]
    exact List.take_prefix _ _
  · rintro ⟨hp, hq, h6, hb⟩
    obtain ⟨p1, p2⟩ := bitsP_length hp
    obtain ⟨q1, q2⟩ := bitsP_length hq
    have hl := hb.length_le
    have hn : p.2.2.2 ≤ q.2.2.2 := by omega
    simp only [Bool.and_eq_true, decide_eq_true_eq]
    refine ⟨hn, hq, (contains_iff hp).2 ⟨h6, ?_⟩⟩
    have e1 := List.prefix_iff_eq_take.1 hb
    have e2 : (bitsP p).length = p.2.2.2.toNat := by omega
    rw [e2] at e1
    rw [e1]
    unfold bitsP
    rw [List.take_take, Nat.min_eq_left (by omega)]
/-! ### a trie's entries -/
def Trie.dump (t : Trie) : List Rt := (t.t0.lst []).map (toR false) ++ (t.t1.lst []).map (toR true)
theorem rP_toR (v6 : Bool) (x : Ent) : rP (toR v6 x) = pfx v6 x.1 := rfl
theorem toR_eq {v6 : Bool} {x : Ent} {r : Rt} : toR v6 x = r ↔ rP r = pfx v6 x.1 ∧ r.2.2.2.2 = x.2 := by
  constructor
  · rintro rfl; exact ⟨rfl, rfl⟩
  · rintro ⟨h1, h2⟩
    obtain ⟨a, b, c, d, e⟩ := r
    have h1 : (a, b, c, d) = pfx v6 x.1 := h1
    have h2 : e = x.2 := h2
    unfold toR mkR
    rw [← h1, h2]
theorem lst_mem {t : Tr} {x : Ent} : x ∈ t.lst [] ↔ t.get x.1 = some x.2 := by
  obtain ⟨q, v⟩ := x
  rw [Tr.mem_lst]
  constructor
  · rintro ⟨q', h1, h2⟩
    rw [List.nil_append] at h1
    rw [h1]
    exact h2
  · intro h
    exact ⟨q, rfl, h⟩
theorem get_len {t : Tr} {n : Nat} (h : t.Deep n) {q : List Bool} {v : Int} (hg : t.get q = some v) : q.length ≤ n := by
  refine (Tr.deep_sub h (q := q) fun e => ?_).1
  unfold Tr.get at hg
  rw [e] at hg
  cases hg
theorem tr_len {t : Trie} (ht : t.ok) {v6 : Bool} {q : List Bool} {v : Int} (hg : t.get v6 q = some v) : q.length ≤ wd v6 := by
  cases v6 with
  | false => exact get_len ht.deep0 hg
  | true => exact get_len ht.deep1 hg
theorem mem_dump {t : Trie} (ht : t.ok) {r : Rt} : r ∈ t.dump ↔ saneP (rP r) = true ∧ t.get r.2.2.1 (bitsP (rP r)) = some r.2.2.2.2 := by
  have key : ∀ v6 : Bool, (∃ x, x ∈ (tsel t.t0 t.t1 v6).lst [] ∧ toR v6 x = r) ↔ r.2.2.1 = v6 ∧ saneP (rP r) = true ∧ t.get r.2.2.1 (bitsP (rP r)) = some r.2.2.2.2 := by
    intro v6
    constructor
    · rintro ⟨x, hx, he⟩
      have hg : t.get v6 x.1 = some x.2 := lst_mem.1 hx
      have hl := tr_len ht hg
      obtain ⟨e1, e2⟩ := toR_eq.1 he
      have h6 : r.2.2.1 = v6 := congrArg (fun p : Pf => p.2.2.1) e1
      refine ⟨h6, by rw [e1]; exact pfx_sane hl, ?_⟩
      rw [e1, pfx_bits hl, h6, e2]
      exact hg
    · rintro ⟨h6, hs, hg⟩
      subst h6
      exact ⟨(bitsP (rP r), r.2.2.2.2), lst_mem.2 hg, toR_eq.2 ⟨sane_pfx hs, rfl⟩⟩
  unfold Trie.dump
  rw [List.mem_append, List.mem_map, List.mem_map]
  have k0 := key false
  have k1 := key true
  rw [show tsel t.t0 t.t1 false = t.t0 from rfl] at k0
  rw [show tsel t.t0 t.t1 true = t.t1 from rfl] at k1
  rw [k0, k1]
  constructor
  · rintro (⟨_, h⟩ | ⟨_, h⟩) <;> exact h
  · intro h
    rcases Bool.eq_false_or_eq_true r.2.2.1 with h6 | h6
    · exact .inr ⟨h6, h⟩
    · exact .inl ⟨h6, h⟩
theorem snn_dump {t : Trie} (ht : t.ok) : Snn t.dump := fun r hr => ((mem_dump ht).1 hr).1
theorem map_srt {v6 : Bool} {l : List Ent} (hl : l.Pairwise eLt) (hw : ∀ x ∈ l, x.1.length ≤ wd v6) : Srt (l.map (toR v6)) := by
  unfold Srt
  rw [List.pairwise_map]
  refine List.Pairwise.imp_of_mem (fun {a b} ha hb h => ?_) hl
  rw [rP_toR, rP_toR]
  refine (pLtB_same (p := pfx v6 a.1) (q := pfx v6 b.1) rfl).2 ?_
  rw [pfx_bits (hw a ha), pfx_bits (hw b hb)]
  exact h
theorem srt_dump {t : Trie} (ht : t.ok) : Srt t.dump := by
  unfold Trie.dump
  refine List.pairwise_append.2 ⟨map_srt (Tr.lst_sorted _ _) fun x hx => get_len ht.deep0 (lst_mem.1 hx), map_srt (Tr.lst_sorted _ _) fun x hx => get_len ht.deep1 (lst_mem.1 hx), fun x hx y hy => ?_⟩
  obtain ⟨a, _, rfl⟩ := List.mem_map.1 hx
  obtain ⟨b, _, rfl⟩ := List.mem_map.1 hy
  rfl
theorem get_dump {t : Trie} (ht : t.ok) {p : Pf} (hs : saneP p = true) : t.get p.2.2.1 (bitsP p) = (getE t.dump p).map (·.2.2.2.2) := by
  cases hg : getE t.dump p with
  | some x =>
    obtain ⟨h1, h2⟩ := getE_some hg
    have := ((mem_dump ht).1 h1).2
    rw [h2] at this
    have h6 : x.2.2.1 = p.2.2.1 := congrArg (fun p : Pf => p.2.2.1) h2
    rw [h6] at this
    exact this
  | none =>
    cases hv : t.get p.2.2.1 (bitsP p) with
    | none => rfl
    | some v =>
      have : mkR p v ∈ t.dump := (mem_dump ht).2 ⟨hs, hv⟩
      exact absurd rfl (getE_none hg _ this)
theorem dump_above {t : Trie} (ht : t.ok) (p : Pf) : t.above p = abvE t.dump p := by
  unfold Trie.above
  cases hs : saneP p with
  | false =>
    rw [if_neg (by decide)]
    refine (List.filter_eq_nil_iff.2 fun x hx h => ?_).symm
    have := (covers_iff.1 h).2.1
    rw [hs] at this
    cases this
  | true =>
    rw [if_pos rfl, Tr.abv_lst]
    have hsel : ∀ v6 x, x ∈ (tsel t.t0 t.t1 v6).lst [] → x.1.length ≤ wd v6 := fun v6 x hx => tr_len ht (v6 := v6) (lst_mem.1 hx)
    refine srt_same (map_srt ((Tr.lst_sorted _ _).filter _) fun x hx => hsel _ x ((List.mem_filter.1 hx).1)) (srt_filter (srt_dump ht) _) fun r => ?_
    unfold abvE
    rw [List.mem_filter, mem_dump ht, List.mem_map, covers_iff]
    constructor
    · rintro ⟨x, hx, rfl⟩
      obtain ⟨h1, h2⟩ := List.mem_filter.1 hx
      have hl := hsel _ x h1
      rw [rP_toR, pfx_bits hl]
      exact ⟨⟨pfx_sane hl, lst_mem.1 h1⟩, pfx_sane hl, hs, rfl, List.isPrefixOf_iff_prefix.1 h2⟩
    · rintro ⟨⟨h1, h2⟩, _, _, h6, hb⟩
      have h6 : r.2.2.1 = p.2.2.1 := h6
      refine ⟨(bitsP (rP r), r.2.2.2.2), List.mem_filter.2 ⟨lst_mem.2 ?_, List.isPrefixOf_iff_prefix.2 hb⟩, toR_eq.2 ⟨?_, rfl⟩⟩
      · unfold Trie.sel
        rw [← h6]
        exact h2
      · rw [← h6]
        exact sane_pfx h1
theorem dump_under {t : Trie} (ht : t.ok) (p : Pf) : t.under p = undE t.dump p := by
  unfold Trie.under
  cases hs : saneP p with
  | false =>
    rw [if_neg (by decide)]
    refine (List.filter_eq_nil_iff.2 fun x hx h => ?_).symm
    have := (covers_iff.1 h).1
    rw [hs] at this
    cases this
  | true =>
    have e := Tr.lst_sub (bitsP p) (t.sel p) []
    rw [List.nil_append] at e
    rw [if_pos rfl, e]
    have hsel : ∀ v6 x, x ∈ (tsel t.t0 t.t1 v6).lst [] → x.1.length ≤ wd v6 := fun v6 x hx => tr_len ht (v6 := v6) (lst_mem.1 hx)
    refine srt_same (map_srt ((Tr.lst_sorted _ _).filter _) fun x hx => hsel _ x ((List.mem_filter.1 hx).1)) (srt_filter (srt_dump ht) _) fun r => ?_
    unfold undE
    rw [List.mem_filter, mem_dump ht, List.mem_map, covers_iff]
    constructor
    · rintro ⟨x, hx, rfl⟩
      obtain ⟨h1, h2⟩ := List.mem_filter.1 hx
      have hl := hsel _ x h1
      rw [rP_toR, pfx_bits hl]
      exact ⟨⟨pfx_sane hl, lst_mem.1 h1⟩, hs, pfx_sane hl, rfl, List.isPrefixOf_iff_prefix.1 h2⟩
    · rintro ⟨⟨h1, h2⟩, _, _, h6, hb⟩
      have h6 : p.2.2.1 = r.2.2.1 := h6
      refine ⟨(bitsP (rP r), r.2.2.2.2), List.mem_filter.2 ⟨lst_mem.2 ?_, List.isPrefixOf_iff_prefix.2 hb⟩, toR_eq.2 ⟨?_, rfl⟩⟩
      · unfold Trie.sel
        rw [h6]
        exact h2
      · rw [h6]
        exact sane_pfx h1
theorem dump_put {t u : Trie} {p : Pf} {v : Int} (ht : t.ok) (hs : saneP p = true) (h : PutP t p v u) : u.dump = insE t.dump (mkR p v) := by
  have hr : saneP (rP (mkR p v)) = true := hs
  refine srt_same (srt_dump h.ok) (srt_insE (srt_dump ht) _) fun r => ?_
  rw [mem_dump h.ok, mem_insE (snn_dump ht) hr, mem_dump ht, h.get]
  constructor
  · rintro ⟨h1, h2⟩
    split at h2
    · rename_i hc
      left
      have e1 : rP r = p := sane_same h1 hs hc.1 hc.2
      obtain ⟨a, b, c, d, e⟩ := r
      obtain ⟨p1, p2, p3, p4⟩ := p
      simp only [Prod.mk.injEq, Option.some.injEq] at e1 h2 ⊢
      obtain ⟨rfl, rfl, rfl, rfl⟩ := e1
      exact ⟨rfl, rfl, rfl, rfl, h2.symm⟩
    · rename_i hc
      right
      refine ⟨⟨h1, h2⟩, fun e => hc ?_⟩
      have e : rP r = p := e
      have h6 : r.2.2.1 = p.2.2.1 := congrArg (fun p : Pf => p.2.2.1) e
      exact ⟨h6, by rw [e]⟩
  · rintro (rfl | ⟨⟨h1, h2⟩, h3⟩)
    · exact ⟨hs, by rw [if_pos ⟨rfl, rfl⟩]⟩
    · refine ⟨h1, ?_⟩
      rw [if_neg]
      · exact h2
      · rintro ⟨a, b⟩
        exact h3 (sane_same h1 hs a b)
theorem dump_del {t u : Trie} {p : Pf} (ht : t.ok) (hs : saneP p = true) (h : DelP t p u) : u.dump = delE t.dump p := by
  refine srt_same (srt_dump h.ok) (srt_delE (srt_dump ht) _) fun r => ?_
  rw [mem_dump h.ok, mem_delE, mem_dump ht, h.get]
  constructor
  · rintro ⟨h1, h2⟩
    split at h2
    · cases h2
    · rename_i hc
      refine ⟨⟨h1, h2⟩, fun e => hc ?_⟩
      have h6 : r.2.2.1 = p.2.2.1 := congrArg (fun p : Pf => p.2.2.1) e
      exact ⟨h6, by rw [e]⟩
  · rintro ⟨⟨h1, h2⟩, h3⟩
    refine ⟨h1, ?_⟩
    rw [if_neg]
    · exact h2
    · rintro ⟨a, b⟩
      exact h3 (sane_same h1 hs a b)
theorem live_sub {t : Tr} : ∀ {s : Tr} {q : List Bool}, LiveB t [] → q ≠ [] → t.sub q = s → s ≠ .nil → ∃ q' v, s.get q' = some v
  | .nil, q, _, _, _, h => absurd rfl h
  | .node i e l r, q, hl, hq, hs, _ => by
    rcases hl q i e l r hq hq hs with h | h | h
    · obtain ⟨v, hv⟩ := Option.isSome_iff_exists.1 h
      exact ⟨[], v, hv⟩
    · obtain ⟨q', v, hv⟩ := live_sub (q := q ++ [false]) (s := l) hl (by simp) (by rw [Tr.sub_snoc t q false hs]; rfl) h
      exact ⟨false :: q', v, hv⟩
    · obtain ⟨q', v, hv⟩ := live_sub (q := q ++ [true]) (s := r) hl (by simp) (by rw [Tr.sub_snoc t q true hs]; rfl) h
      exact ⟨true :: q', v, hv⟩
def insideE (e : List Rt) (p : Pf) : Bool := e.any fun x => coversP p (rP x) && !decide (rP x = p)
theorem dump_inside {t : Trie} (ht : t.ok) (p : Pf) : kids (t.at' p) = insideE t.dump p := by
  rw [Bool.eq_iff_iff]
  unfold insideE
  rw [List.any_eq_true]
  unfold Trie.at' Trie.sel
  cases hs : saneP p with
  | false =>
    rw [if_neg (by decide)]
    constructor
    · intro h; cases h
    · rintro ⟨x, _, h⟩
      simp only [Bool.and_eq_true] at h
      have := (covers_iff.1 h.1).1
      rw [hs] at this
      cases this
  | true =>
    rw [if_pos rfl]
    have hlive := ht.live p.2.2.1
    have up : ∀ q' v, q' ≠ [] → ((tsel t.t0 t.t1 p.2.2.1).sub (bitsP p)).get q' = some v → ∃ x, x ∈ t.dump ∧ (coversP p (rP x) && !decide (rP x = p)) = true := by
      intro q' v hq hg
      have hg2 : t.get p.2.2.1 (bitsP p ++ q') = some v := by unfold Trie.get Tr.get; rw [Tr.sub_app]; exact hg
      have hl := tr_len ht hg2
      have hb : bitsP (rP (mkR (pfx p.2.2.1 (bitsP p ++ q')) v)) = bitsP p ++ q' := pfx_bits hl
      refine ⟨mkR (pfx p.2.2.1 (bitsP p ++ q')) v, (mem_dump ht).2 ⟨pfx_sane hl, by rw [hb]; exact hg2⟩, ?_⟩
      simp only [Bool.and_eq_true, Bool.not_eq_true', decide_eq_false_iff_not]
      refine ⟨covers_iff.2 ⟨hs, pfx_sane hl, rfl, ?_⟩, fun e => ?_⟩
      · rw [hb]
        exact List.prefix_append _ _
      · have e : pfx p.2.2.1 (bitsP p ++ q') = p := e
        have := congrArg bitsP e
        rw [pfx_bits hl] at this
        have := congrArg List.length this
        simp at this
        exact hq this
    constructor
    · intro h
      cases hsub : (tsel t.t0 t.t1 p.2.2.1).sub (bitsP p) with
      | nil => rw [hsub] at h; cases h
      | node i e l r =>
        rw [hsub] at h
        simp only [kids, Bool.not_eq_true', Bool.and_eq_false_iff, decide_eq_false_iff_not] at h
        rcases h with h | h
        · have hl : l ≠ .nil := fun e => h (Tr.ix_nil.2 e)
          obtain ⟨q', v, hv⟩ := live_sub (q := bitsP p ++ [false]) (s := l) hlive (by simp) (by rw [Tr.sub_snoc _ _ false hsub]; rfl) hl
          exact up (false :: q') v (by simp) (by rw [hsub]; exact hv)
        · have hl : r ≠ .nil := fun e => h (Tr.ix_nil.2 e)
          obtain ⟨q', v, hv⟩ := live_sub (q := bitsP p ++ [true]) (s := r) hlive (by simp) (by rw [Tr.sub_snoc _ _ true hsub]; rfl) hl
          exact up (true :: q') v (by simp) (by rw [hsub]; exact hv)
    · rintro ⟨x, hx, h⟩
      simp only [Bool.and_eq_true, Bool.not_eq_true', decide_eq_false_iff_not] at h
      obtain ⟨h1, h2⟩ := h
      obtain ⟨_, k2, k3, q', k4⟩ := covers_iff.1 h1
      obtain ⟨_, hg⟩ := (mem_dump ht).1 hx
      have k3 : p.2.2.1 = x.2.2.1 := k3
      rw [← k3, ← k4] at hg
      unfold Trie.get Tr.get at hg
      rw [Tr.sub_app] at hg
      have hq : q' ≠ [] := by
        rintro rfl
        rw [List.append_nil] at k4
        exact h2 (sane_same k2 hs k3.symm k4.symm)
      cases hsub : (tsel t.t0 t.t1 p.2.2.1).sub (bitsP p) with
      | nil => rw [hsub, Tr.sub_nil] at hg; cases hg
      | node i e l r =>
        rw [hsub] at hg
        cases q' with
        | nil => exact absurd rfl hq
        | cons b q' =>
          rw [Tr.sub_cons] at hg
          simp only [kids, Bool.not_eq_true', Bool.and_eq_false_iff, decide_eq_false_iff_not]
          cases b with
          | false =>
            left
            intro e
            have : l = .nil := Tr.ix_nil.1 e
            subst this
            have hg : (Tr.nil.sub q').ent = some x.2.2.2.2 := hg
            rw [Tr.sub_nil] at hg
            cases hg
          | true =>
            right
            intro e
            have : r = .nil := Tr.ix_nil.1 e
            subst this
            have hg : (Tr.nil.sub q').ent = some x.2.2.2.2 := hg
            rw [Tr.sub_nil] at hg
            cases hg
end Sp
end
