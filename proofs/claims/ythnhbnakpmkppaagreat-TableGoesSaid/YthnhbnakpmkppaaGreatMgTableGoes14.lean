import Derived.ProofKit
import Derived.Test.YthnhbnakpmkppaaGreatMgTableGoes7
import Derived.Test.YthnhbnakpmkppaaGreatMgTableGoes13
section
set_option linter.all false
set_option maxRecDepth 10000
namespace Sp
theorem getD_set2 {l : List (Int × Int)} {i k : Nat} {z : Int × Int} : (l.set i z).getD k (0, 0) = if i = k ∧ i < l.length then z else l.getD k (0, 0) := by
  rw [List.getD_eq_getElem?_getD, List.getElem?_set]
  by_cases h : i = k
  · subst h
    by_cases h2 : i < l.length
    · rw [if_pos rfl, if_pos h2, if_pos ⟨rfl, h2⟩]; rfl
    · rw [if_pos rfl, if_neg h2, if_neg (fun k => h2 k.2), List.getD_eq_getElem?_getD, List.getElem?_eq_none (by omega)]
  · rw [if_neg h, if_neg (fun k => h k.1), ← List.getD_eq_getElem?_getD]
theorem tieL_len (ln : List (Int × Int)) (a b : Int) : (tieL ln a b).length = ln.length := by unfold tieL; simp
theorem tieL_2 {ln : List (Int × Int)} {a b : Int} (ha : a.toNat < ln.length) (hb : b.toNat < ln.length) (k : Nat) : ((tieL ln a b).getD k (0, 0)).2 = if a.toNat = k then b else (ln.getD k (0, 0)).2 := by
  unfold tieL
  rw [getD_set2, List.length_set]
  by_cases h : b.toNat = k
  · subst h
    rw [if_pos ⟨rfl, hb⟩]
    dsimp only
    rw [getD_set2]
    by_cases h2 : a.toNat = b.toNat
    · rw [if_pos ⟨h2, ha⟩, if_pos h2]
    · rw [if_neg (fun k => h2 k.1), if_neg h2]
  · rw [if_neg (fun k => h k.1), getD_set2]
    by_cases h2 : a.toNat = k
    · rw [if_pos ⟨h2, ha⟩, if_pos h2]
    · rw [if_neg (fun k => h2 k.1), if_neg h2]
theorem tieL_1 {ln : List (Int × Int)} {a b : Int} (ha : a.toNat < ln.length) (hb : b.toNat < ln.length) (k : Nat) : ((tieL ln a b).getD k (0, 0)).1 = if b.toNat = k then a else (ln.getD k (0, 0)).1 := by
  unfold tieL
  rw [getD_set2, List.length_set]
  by_cases h : b.toNat = k
  · rw [if_pos ⟨h, hb⟩, if_pos h]
  · rw [if_neg (fun k => h k.1), if_neg h, getD_set2]
    by_cases h2 : a.toNat = k
    · rw [if_pos ⟨h2, ha⟩, ← h2]
    · rw [if_neg (fun k => h2 k.1)]
theorem ring_app {ln : List (Int × Int)} {a b : Int} : ∀ {X Y : List Int}, Ring ln (X ++ a :: b :: Y) ↔ Ring ln (X ++ [a]) ∧ ((ln.getD a.toNat (0, 0)).2 = b ∧ (ln.getD b.toNat (0, 0)).1 = a) ∧ Ring ln (b :: Y)
  | [], Y => ⟨fun ⟨h1, h2, h3⟩ => ⟨trivial, ⟨h1, h2⟩, h3⟩, fun ⟨_, ⟨h1, h2⟩, h3⟩ => ⟨h1, h2, h3⟩⟩
  | [x], Y => ⟨fun ⟨h1, h2, h3⟩ => ⟨⟨h1, h2, trivial⟩, ⟨h3.1, h3.2.1⟩, h3.2.2⟩, fun ⟨⟨h1, h2, _⟩, ⟨h3, h4⟩, h5⟩ => ⟨h1, h2, h3, h4, h5⟩⟩
  | x :: y :: X, Y => by
    have ih := ring_app (ln := ln) (a := a) (b := b) (X := y :: X) (Y := Y)
    show ((ln.getD x.toNat (0, 0)).2 = y ∧ (ln.getD y.toNat (0, 0)).1 = x ∧ Ring ln (y :: X ++ a :: b :: Y)) ↔ ((ln.getD x.toNat (0, 0)).2 = y ∧ (ln.getD y.toNat (0, 0)).1 = x ∧ Ring ln (y :: X ++ [a])) ∧ _
    rw [ih]
    constructor
    · rintro ⟨h1, h2, h3, h4, h5⟩
      exact ⟨⟨h1, h2, h3⟩, h4, h5⟩
    · rintro ⟨⟨h1, h2, h3⟩, h4, h5⟩
      exact ⟨h1, h2, h3, h4, h5⟩
theorem ring_frame {ln ln' : List (Int × Int)} : ∀ {L : List Int}, Ring ln L → (∀ x ∈ L.dropLast, (ln'.getD x.toNat (0, 0)).2 = (ln.getD x.toNat (0, 0)).2) → (∀ y ∈ L.tail, (ln'.getD y.toNat (0, 0)).1 = (ln.getD y.toNat (0, 0)).1) → Ring ln' L
  | [], _, _, _ => trivial
  | [x], _, _, _ => trivial
  | x :: y :: L, ⟨h1, h2, h3⟩, d, t => by
    refine ⟨by rw [d x (by simp)]; exact h1, by rw [t y (by simp)]; exact h2, ring_frame h3 (fun z hz => d z ?_) fun z hz => t z ?_⟩
    · rw [List.dropLast_cons₂]
      exact List.mem_cons_of_mem _ hz
    · exact List.mem_cons_of_mem _ hz
theorem cut_ring {ln : List (Int × Int)} {X Y : List Int} {a i b : Int} (hr : Ring ln (X ++ a :: i :: b :: Y)) (hX : ∀ x ∈ X, x.toNat ≠ a.toNat) (hX2 : ∀ x ∈ (X ++ [a]).tail, x.toNat ≠ b.toNat) (hY : ∀ y ∈ (b :: Y).dropLast, y.toNat ≠ a.toNat) (hY2 : ∀ y ∈ Y, y.toNat ≠ b.toNat)
    (ha : a.toNat < ln.length) (hb : b.toNat < ln.length) : (ln.getD i.toNat (0, 0)).1 = a ∧ (ln.getD i.toNat (0, 0)).2 = b ∧ Ring (tieL ln a b) (X ++ a :: b :: Y) := by
  obtain ⟨h1, ⟨h2, h3⟩, h4⟩ := ring_app.1 hr
  obtain ⟨h5, h6, h7⟩ := h4
  refine ⟨h3, h5, ring_app.2 ⟨ring_frame h1 (fun x hx => ?_) fun y hy => ?_, ⟨?_, ?_⟩, ring_frame h7 (fun x hx => ?_) fun y hy => ?_⟩⟩
  · rw [List.dropLast_concat] at hx
    rw [tieL_2 ha hb, if_neg fun k => hX x hx k.symm]
  · rw [tieL_1 ha hb, if_neg fun k => hX2 y hy k.symm]
  · rw [tieL_2 ha hb, if_pos rfl]
  · rw [tieL_1 ha hb, if_pos rfl]
  · rw [tieL_2 ha hb, if_neg fun k => hY x hx k.symm]
  · rw [tieL_1 ha hb, if_neg fun k => hY2 y hy k.symm]
theorem okO.lt {t : Rc} (h : okO t) {x : Int} (hx : x ∈ t.o) : 0 ≤ x ∧ x < t.is.length := ⟨((h.mem x).1 hx).1, ((h.mem x).1 hx).2.1⟩
theorem okO.cut {t : Rc} (h : okO t) {i : Int} (hi : i ∈ t.o) : ∃ a b : Int, t.ln.getD i.toNat (0, 0) = (a, b) ∧ 0 ≤ a ∧ a ≤ t.is.length ∧ 0 ≤ b ∧ b ≤ t.is.length ∧ Ring (tieL t.ln a b) ((t.is.length : Int) :: (t.o.erase i ++ [(t.is.length : Int)])) := by
  obtain ⟨A, B, hAB⟩ := List.append_of_mem hi
  have hnd := h.nd
  rw [hAB] at hnd
  have hiA : i ∉ A := fun k => (List.nodup_append.1 hnd).2.2 i k i List.mem_cons_self rfl
  have her : t.o.erase i = A ++ B := by
    rw [hAB, List.erase_append_right _ hiA, List.erase_cons_head]
  have hr := h.ring
  have ltA : ∀ x ∈ A, 0 ≤ x ∧ x < t.is.length := fun x hx => h.lt (by rw [hAB]; simp [hx])
  have ltB : ∀ x ∈ B, 0 ≤ x ∧ x < t.is.length := fun x hx => h.lt (by rw [hAB]; simp [hx])
  have he0 : (0 : Int) ≤ t.is.length := by omega
  have hll := h.len
  have hlen : ((t.is.length : Int)).toNat + 1 = t.ln.length := by omega
  have hbig : ((t.is.length : Int)).toNat = t.is.length := rfl
  generalize (t.is.length : Int) = e at *
  have hnd2 : (A ++ B).Nodup := by rw [← her]; exact h.nd.erase i
  obtain ⟨nA, nB, nAB⟩ := List.nodup_append.1 hnd2
  obtain ⟨X, a, hX⟩ : ∃ X a, e :: A = X ++ [a] := by
    rcases List.eq_nil_or_concat (e :: A) with k | ⟨X, a, k⟩
    · cases k
    · exact ⟨X, a, by rw [k, List.concat_eq_append]⟩
  obtain ⟨b, Y, hY⟩ : ∃ b Y, B ++ [e] = b :: Y := by
    cases B with
    | nil => exact ⟨e, [], rfl⟩
    | cons b B => exact ⟨b, B ++ [e], rfl⟩
  have ndX : (e :: A).Nodup := List.nodup_cons.2 ⟨fun k => by have := ltA e k; omega, nA⟩
  have ndY : (B ++ [e]).Nodup := List.nodup_append.2 ⟨nB, List.pairwise_singleton _ _, fun x hx y hy => by obtain rfl := List.mem_singleton.1 hy; have := ltB x hx; omega⟩
  have ha : a ∈ e :: A := by rw [hX]; simp
  have hb : b ∈ B ++ [e] := by rw [hY]; simp
  have ra : 0 ≤ a ∧ a ≤ e := by
    rcases List.mem_cons.1 ha with rfl | k
    · omega
    · have := ltA a k; omega
  have rb : 0 ≤ b ∧ b ≤ e := by
    rcases List.mem_append.1 hb with k | k
    · have := ltB b k; omega
    · obtain rfl := List.mem_singleton.1 k; omega
  have whole : e :: (t.o ++ [e]) = X ++ a :: i :: b :: Y := by
    rw [hAB, ← hY]
    have : e :: (A ++ i :: B ++ [e]) = (e :: A) ++ i :: (B ++ [e]) := by simp
    rw [this, hX]
    simp
  rw [whole] at hr
  have R := cut_ring hr (fun x hx => ?_) (fun x hx => ?_) (fun y hy => ?_) (fun y hy => ?_) (by omega) (by omega)
  · refine ⟨a, b, Prod.ext R.1 R.2.1, ra.1, ra.2, rb.1, rb.2, ?_⟩
    have e2 : e :: (t.o.erase i ++ [e]) = X ++ a :: b :: Y := by
      rw [her, ← hY]
      have : e :: (A ++ B ++ [e]) = (e :: A) ++ (B ++ [e]) := by simp
      rw [this, hX]
      simp
    rw [e2]
    exact R.2.2
  · rw [hX] at ndX
    have hne : x ≠ a := (List.nodup_append.1 ndX).2.2 x hx a (by simp)
    have : x ∈ e :: A := by rw [hX]; simp [hx]
    rcases List.mem_cons.1 this with rfl | k
    · omega
    · have := ltA x k; omega
  · rw [← hX] at hx
    have hx : x ∈ A := hx
    have lx := ltA x hx
    have hne : x ≠ b := by
      rintro rfl
      rcases List.mem_append.1 hb with k | k
      · exact nAB x hx x k rfl
      · have := List.mem_singleton.1 k; omega
    omega
  · rw [← hY, List.dropLast_concat] at hy
    have ly := ltB y hy
    have hne : y ≠ a := by
      rintro rfl
      rcases List.mem_cons.1 ha with k | k
      · omega
      · exact nAB y k y hy rfl
    omega
  · rw [hY] at ndY
    have hne : y ≠ b := fun k => (List.nodup_cons.1 ndY).1 (k ▸ hy)
    have : y ∈ B ++ [e] := by rw [hY]; simp [hy]
    rcases List.mem_append.1 this with k | k
    · have := ltB y k; omega
    · have := List.mem_singleton.1 k; omega
theorem add_ring {ln : List (Int × Int)} {o : List Int} {e i : Int} (hr : Ring ln (e :: (o ++ [e]))) (nd : o.Nodup) (ho : ∀ x ∈ o, 0 ≤ x ∧ x < e) (hi : 0 ≤ i ∧ i < e) (hni : i ∉ o) (hl : e.toNat < ln.length) :
    (0 ≤ (ln.getD e.toNat (0, 0)).2 ∧ (ln.getD e.toNat (0, 0)).2 ≤ e) ∧ Ring (tieL (tieL ln e i) i (ln.getD e.toNat (0, 0)).2) (e :: i :: (o ++ [e])) := by
  obtain ⟨f, Y, hY⟩ : ∃ f Y, o ++ [e] = f :: Y := by
    cases o with
    | nil => exact ⟨e, [], rfl⟩
    | cons b B => exact ⟨b, B ++ [e], rfl⟩
  have ndY : (o ++ [e]).Nodup := List.nodup_append.2 ⟨nd, List.pairwise_singleton _ _, fun x hx y hy => by obtain rfl := List.mem_singleton.1 hy; have := ho x hx; omega⟩
  have hin : ∀ x ∈ f :: Y, 0 ≤ x ∧ x ≤ e ∧ x ≠ i := by
    intro x hx
    rw [← hY] at hx
    rcases List.mem_append.1 hx with k | k
    · have := ho x k; exact ⟨by omega, by omega, fun e => hni (e ▸ k)⟩
    · obtain rfl := List.mem_singleton.1 k; exact ⟨by omega, by omega, by omega⟩
  have hdl : ∀ x ∈ (f :: Y).dropLast, 0 ≤ x ∧ x < e ∧ x ≠ i := by
    intro x hx
    rw [← hY, List.dropLast_concat] at hx
    have := ho x hx
    exact ⟨by omega, by omega, fun e => hni (e ▸ hx)⟩
  rw [hY] at hr ndY ⊢
  obtain ⟨h1, h2, h3⟩ := hr
  rw [h1]
  have hf := hin f List.mem_cons_self
  have lt1 : i.toNat < (tieL ln e i).length := by rw [tieL_len]; omega
  have lt2 : f.toNat < (tieL ln e i).length := by rw [tieL_len]; omega
  have g2 : ∀ k, ((tieL (tieL ln e i) i f).getD k (0, 0)).2 = if i.toNat = k then f else if e.toNat = k then i else (ln.getD k (0, 0)).2 := fun k => by rw [tieL_2 lt1 lt2, tieL_2 hl (by omega)]
  have g1 : ∀ k, ((tieL (tieL ln e i) i f).getD k (0, 0)).1 = if f.toNat = k then i else if i.toNat = k then e else (ln.getD k (0, 0)).1 := fun k => by rw [tieL_1 lt1 lt2, tieL_1 hl (by omega)]
  refine ⟨⟨hf.1, hf.2.1⟩, ?_, ?_, ?_, ?_, ring_frame h3 (fun x hx => ?_) fun y hy => ?_⟩
  · rw [g2, if_neg (by omega), if_pos rfl]
  · rw [g1, if_neg (by omega), if_pos rfl]
  · rw [g2, if_pos rfl]
  · rw [g1, if_pos rfl]
  · have := hdl x hx
    rw [g2, if_neg (by omega), if_neg (by omega)]
  · have hy : y ∈ Y := hy
    have := hin y (List.mem_cons_of_mem _ hy)
    have hne : y ≠ f := fun k => (List.nodup_cons.1 ndY).1 (k ▸ hy)
    rw [g1, if_neg (by omega), if_neg (by omega)]
theorem mem_set_is {is : List Bool} {i : Nat} {b : Bool} {j : Nat} : (is.set i b).getD j false = if i = j ∧ i < is.length then b else is.getD j false := by
  rw [List.getD_eq_getElem?_getD, List.getElem?_set]
  by_cases h : i = j
  · subst h
    by_cases h2 : i < is.length
    · rw [if_pos rfl, if_pos h2, if_pos ⟨rfl, h2⟩]; rfl
    · rw [if_pos rfl, if_neg h2, if_neg (fun k => h2 k.2), List.getD_eq_getElem?_getD, List.getElem?_eq_none (by omega)]
  · rw [if_neg h, if_neg (fun k => h k.1), ← List.getD_eq_getElem?_getD]
theorem okO.drop {t : Rc} (h : okO t) {i : Int} (hi : i ∈ t.o) : ∃ a b : Int, t.ln.getD i.toNat (0, 0) = (a, b) ∧ 0 ≤ a ∧ a ≤ t.is.length ∧ 0 ≤ b ∧ b ≤ t.is.length ∧ okO ⟨tieL t.ln a b, t.is.set i.toNat false, t.o.erase i⟩ := by
  obtain ⟨a, b, h1, h2, h3, h4, h5, h6⟩ := h.cut hi
  have hlt := h.lt hi
  refine ⟨a, b, h1, h2, h3, h4, h5, ?_⟩
  refine ⟨by rw [tieL_len]; simp [h.len], by simpa using h.big, h.nd.erase i, fun j => ?_, by simpa using h6⟩
  rw [h.nd.mem_erase_iff, h.mem j]
  dsimp only
  rw [mem_set_is, List.length_set]
  constructor
  · rintro ⟨k1, k2, k3, k4⟩
    exact ⟨k2, k3, by rw [if_neg (by omega)]; exact k4⟩
  · rintro ⟨k2, k3, k4⟩
    split at k4
    · cases k4
    · rename_i hn
      exact ⟨fun e => hn ⟨by rw [e], by omega⟩, k2, k3, k4⟩
theorem okO.add {t : Rc} (h : okO t) {i : Int} (h0 : 0 ≤ i) (h1 : i < t.is.length) (hi : i ∉ t.o) : (0 ≤ (t.ln.getD t.is.length (0, 0)).2 ∧ (t.ln.getD t.is.length (0, 0)).2 ≤ t.is.length) ∧
    okO ⟨tieL (tieL t.ln t.is.length i) i (t.ln.getD t.is.length (0, 0)).2, t.is.set i.toNat true, i :: t.o⟩ := by
  have hl := h.len
  obtain ⟨a1, a2⟩ := add_ring (i := i) h.ring h.nd (fun x hx => h.lt hx) ⟨h0, h1⟩ hi (by omega)
  have e : ((t.is.length : Int)).toNat = t.is.length := rfl
  rw [e] at a1 a2
  refine ⟨a1, by rw [tieL_len, tieL_len]; simp [hl], by simpa using h.big, List.nodup_cons.2 ⟨hi, h.nd⟩, fun j => ?_, by simpa using a2⟩
  rw [List.mem_cons, h.mem j]
  dsimp only
  rw [mem_set_is, List.length_set]
  constructor
  · rintro (rfl | ⟨k2, k3, k4⟩)
    · exact ⟨h0, h1, by rw [if_pos ⟨rfl, by omega⟩]⟩
    · exact ⟨k2, k3, by split; rfl; exact k4⟩
  · rintro ⟨k2, k3, k4⟩
    by_cases e : j = i
    · exact .inl e
    · rw [if_neg (by omega)] at k4
      exact .inr ⟨k2, k3, k4⟩
theorem okO.moved {t : Rc} (h : okO t) {i : Int} (hi : i ∈ t.o) : ∃ a b : Int, t.ln.getD i.toNat (0, 0) = (a, b) ∧ 0 ≤ a ∧ a ≤ t.is.length ∧ 0 ≤ b ∧ b ≤ t.is.length ∧
    (0 ≤ ((tieL t.ln a b).getD t.is.length (0, 0)).2 ∧ ((tieL t.ln a b).getD t.is.length (0, 0)).2 ≤ t.is.length) ∧
    okO ⟨tieL (tieL (tieL t.ln a b) t.is.length i) i ((tieL t.ln a b).getD t.is.length (0, 0)).2, t.is, i :: t.o.erase i⟩ := by
  obtain ⟨a, b, h1, h2, h3, h4, h5, h6⟩ := h.drop hi
  have hlt := h.lt hi
  have k := h6.add (i := i) hlt.1 (by simpa using hlt.2) (fun k => ((h.nd.mem_erase_iff).1 k).1 rfl)
  simp only [List.length_set] at k
  obtain ⟨k1, k2⟩ := k
  refine ⟨a, b, h1, h2, h3, h4, h5, k1, ?_⟩
  have e : (t.is.set i.toNat false).set i.toNat true = t.is := by
    rw [List.set_set]
    have : t.is.getD i.toNat false = true := ((h.mem i).1 hi).2.2
    apply List.ext_getElem?
    intro j
    rw [List.getElem?_set]
    split
    · rename_i e
      subst e
      rw [if_pos (by omega)]
      rw [List.getD_eq_getElem?_getD] at this
      cases hg : t.is[i.toNat]? with
      | none => rw [hg] at this; cases this
      | some x => rw [hg] at this; exact congrArg some this.symm
    · rfl
  rw [e] at k2
  exact k2
end Sp
end
section
set_option linter.all false
set_option maxRecDepth 10000
namespace Sp
open Go Go.Proofs Sx Go.Proofs.YthnhbnakpmkppaaGreat.Ma
theorem p_olen : T_olen := fun t ht => ⟨(), trivial, rfl, trivial⟩
def newO (k : Nat) : Rc := ⟨(List.replicate (k + 1) ((0 : Int), (0 : Int))).set k ((k : Int), (k : Int)), List.replicate k false, []⟩
theorem newO_ok (k : Nat) (h : k ≤ 1024) : okO (newO k) := by
  have hg : (newO k).ln.getD k (0, 0) = ((k : Int), (k : Int)) := by
    unfold newO
    dsimp only
    rw [List.getD_eq_getElem?_getD, List.getElem?_set, if_pos rfl, if_pos (by rw [List.length_replicate]; omega)]
    rfl
  refine ⟨?_, ?_, List.nodup_nil, fun i => Iff.intro (fun (h : i ∈ ([] : List Int)) => absurd h List.not_mem_nil) (fun h => ?_), ?_⟩
  · unfold newO; simp
  · unfold newO; simp; omega
  · obtain ⟨_, _, h⟩ := h
    unfold newO at h
    dsimp only at h
    rw [List.getD_eq_getElem?_getD, List.getElem?_replicate] at h
    split at h <;> cases h
  · have e : ((newO k).is.length : Int) = k := by unfold newO; simp
    rw [e]
    show ((newO k).ln.getD ((k : Int)).toNat (0, 0)).2 = k ∧ ((newO k).ln.getD ((k : Int)).toNat (0, 0)).1 = k ∧ True
    rw [show ((k : Int)).toNat = k from rfl, hg]
    exact ⟨rfl, rfl, trivial⟩
theorem p_onew : T_onew := by
  unfold T_onew; try dsimp only [H_SpOt_2, H_SpOt_4]
  intro m _
  generalize hk : max 0 (min m 1024) = k
  have k0 : 0 ≤ k ∧ k ≤ 1024 := by omega
  obtain ⟨j, rfl⟩ : ∃ j : Nat, k = j := ⟨k.toNat, by omega⟩
  have fin : ∃ y : Rc, (okO y ∧ y.o = [] ∧ (y.is.length : Int) = j) ∧ ((j : Int) + 1).toNat = y.ln.length ∧ ((j : Int)).toNat = y.is.length ∧ (0 : Int) = y.o.length ∧ (List.replicate ((j : Int) + 1).toNat ((0 : Int), (0 : Int))).set ((j : Int)).toNat ((j : Int), (j : Int)) = y.ln ∧ List.replicate ((j : Int)).toNat false = y.is ∧ True := by
    have e : ((j : Int) + 1).toNat = j + 1 := by omega
    refine ⟨newO j, ⟨newO_ok j (by omega), rfl, by unfold newO; simp⟩, ?_, ?_, rfl, ?_, rfl, trivial⟩
    · rw [e]; unfold newO; simp
    · unfold newO; simp
    · rw [e]; rfl
  have b : (0 : Int) ≤ j ∧ (j : Int) < (((j : Int) + 1).toNat : Nat) := by omega
  exact ⟨by omega, ⟨by omega, by omega, b, fin⟩, by omega, by omega, b, fin⟩
theorem p_otie : T_otie := fun x h => ⟨h.1, h.2, (), trivial, rfl, trivial⟩
theorem okO.in' {t : Rc} (h : okO t) {i : Int} (h0 : 0 ≤ i) (h1 : i < t.is.length) (h2 : t.is.getD i.toNat false = true) : i ∈ t.o := (h.mem i).2 ⟨h0, h1, h2⟩
theorem okO.len_le {t : Rc} (h : okO t) : t.o.length ≤ t.is.length := by
  have sub : t.o.length ≤ ((List.range t.is.length).map fun k : Nat => (k : Int)).length := by
    refine h.nd.length_le_of_subset fun j hj => ?_
    have := h.lt hj
    exact List.mem_map.2 ⟨j.toNat, List.mem_range.2 (by omega), by omega⟩
  simpa using sub
theorem p_otouch : T_otouch := by
  unfold T_otouch; try dsimp only [H_SpOt_3]
  rintro ⟨t, i⟩ h
  dsimp only at h ⊢
  have hll := h.len
  have hbig := h.big
  have hle := h.len_le
  have out : ¬ (0 ≤ i ∧ i < t.is.length) → ∃ y : Rc, SetO t (if inO t i = true then i :: t.o.erase i else t.o) y ∧ false = inO t i ∧ t.ln.length = y.ln.length ∧ t.is.length = y.is.length ∧ (t.o.length : Int) = y.o.length ∧ t.ln = y.ln ∧ t.is = y.is ∧ True := by
    intro hc
    have e : inO t i = false := by
      unfold inO
      by_cases h0 : 0 ≤ i
      · simp; omega
      · simp [h0]
    rw [e]
    exact ⟨t, ⟨h, rfl, rfl⟩, rfl, rfl, rfl, rfl, rfl, rfl, trivial⟩
  refine ifB_d (fun h0 => ifB_nd (fun h1 => out (by omega)) fun h1 => ?_) fun h0 => out (by omega)
  have hin : inO t i = true := by unfold inO; simp [h0, h1]
  rw [hin]
  refine ⟨⟨h0, h1⟩, ifB_b (fun hb => ?_) fun hb => ?_⟩
  · have hm := h.in' h0 h1 hb
    obtain ⟨a, b, q1, q2, q3, q4, q5, q6, q7⟩ := h.moved hm
    have l1 : (t.o.erase i).length + 1 = t.o.length := by
      have := List.length_erase_of_mem hm
      have := List.length_pos_of_mem hm
      omega
    have tl : ((t.is.length : Int)).toNat = t.is.length := rfl
    refine ⟨by omega, by omega, (t, a, b), ?_, ?_, rfl, rfl, rfl, rfl, rfl, by dsimp only; omega, fun _ _ => ⟨by omega, (⟨tieL t.ln a b, t.is, t.o⟩, (t.is.length : Int), i), rfl, rfl, (tieL_len _ _ _).symm, rfl, rfl, rfl, rfl, by dsimp only; rw [tieL_len]; omega, fun _ _ => ⟨(⟨tieL (tieL t.ln a b) (t.is.length : Int) i, t.is, t.o⟩, i, ((tieL t.ln a b).getD t.is.length (0, 0)).2), rfl, rfl, by dsimp only; rw [tieL_len, tieL_len], rfl, rfl, rfl, rfl, by dsimp only; rw [tieL_len, tieL_len]; omega, fun _ _ => ⟨⟨_, t.is, i :: t.o.erase i⟩, ⟨q7, rfl, rfl⟩, rfl, by dsimp only; rw [tieL_len, tieL_len, tieL_len], rfl, by simp; omega, rfl, rfl, trivial⟩⟩⟩⟩
    · rw [q1]
    · rw [q1]
  · have hm : i ∉ t.o := fun k => by have := ((h.mem i).1 k).2.2; rw [hb] at this; cases this
    obtain ⟨q1, q2⟩ := h.add h0 h1 hm
    refine ⟨⟨h0, h1⟩, by omega, by omega, (⟨t.ln, t.is.set i.toNat true, i :: t.o⟩, (t.is.length : Int), i), rfl, rfl, rfl, by simp, by simp, rfl, rfl, by dsimp only; omega, fun _ _ => ⟨(⟨tieL t.ln (t.is.length : Int) i, t.is.set i.toNat true, i :: t.o⟩, i, (t.ln.getD t.is.length (0, 0)).2), rfl, rfl, by dsimp only; rw [tieL_len], by simp, by simp, rfl, rfl, by dsimp only; rw [tieL_len]; omega, fun _ _ => ⟨⟨_, _, i :: t.o⟩, ⟨q2, by simp, by rw [if_pos rfl, List.erase_of_not_mem hm]⟩, rfl, by dsimp only; rw [tieL_len, tieL_len], by simp, by simp, rfl, rfl, trivial⟩⟩⟩
theorem p_odrop : T_odrop := by
  unfold T_odrop; try dsimp only [H_SpOt_1]
  rintro ⟨t, i⟩ h
  dsimp only at h ⊢
  have hll := h.len
  have hbig := h.big
  have hle := h.len_le
  have out : i ∉ t.o → ∃ y : Rc, SetO t (t.o.erase i) y ∧ false = decide (i ∈ t.o) ∧ t.ln.length = y.ln.length ∧ t.is.length = y.is.length ∧ (t.o.length : Int) = y.o.length ∧ t.ln = y.ln ∧ t.is = y.is ∧ True := by
    intro hc
    exact ⟨t, ⟨h, rfl, (List.erase_of_not_mem hc).symm⟩, (decide_eq_false hc).symm, rfl, rfl, rfl, rfl, rfl, trivial⟩
  refine ifB_d (fun h0 => ifB_d (fun h1 => ⟨⟨h0, h1⟩, ifB_b (fun hb => out fun k => ?_) fun hb => ?_⟩) fun h1 => out fun k => ?_) fun h0 => out fun k => ?_
  · have := ((h.mem i).1 k).2.2
    rw [this] at hb
    cases hb
  · have hm := h.in' h0 h1 (by simpa using hb)
    obtain ⟨a, b, q1, q2, q3, q4, q5, q6⟩ := h.drop hm
    have l1 : (t.o.erase i).length + 1 = t.o.length := by
      have := List.length_erase_of_mem hm
      have := List.length_pos_of_mem hm
      omega
    refine ⟨by omega, by omega, (t, a, b), by rw [q1], by rw [q1], rfl, rfl, rfl, rfl, rfl, by dsimp only; omega, fun _ _ => ⟨⟨h0, h1⟩, by omega, ⟨_, _, t.o.erase i⟩, ⟨q6, by simp, rfl⟩, (decide_eq_true hm).symm, by dsimp only; rw [tieL_len], by simp, by dsimp only; omega, rfl, rfl, trivial⟩⟩
  · exact h1 (h.lt k).2
  · exact h0 (h.lt k).1
theorem ring_get {ln : List (Int × Int)} : ∀ {L : List Int} {k : Nat} {a b : Int}, Ring ln L → L[k]? = some a → L[k + 1]? = some b → (ln.getD a.toNat (0, 0)).2 = b
  | x :: y :: L, 0, a, b, h, h1, h2 => by
    simp at h1 h2
    subst h1 h2
    exact h.1
  | x :: y :: L, k + 1, a, b, h, h1, h2 => ring_get (L := y :: L) (k := k) h.2.2 (by simpa using h1) (by simpa using h2)
  | [x], k, a, b, h, h1, h2 => by simp at h2
  | [], k, a, b, h, h1, h2 => by simp at h2
theorem p_oorder : T_oorder := by
  intro t h
  have hll := h.len
  have hbig := h.big
  have hle := h.len_le
  refine ⟨fun x => ∃ k, k ≤ t.o.length ∧ x.2 = t.o.take k ∧ (0 < k → t.o[k - 1]? = some x.1), fun x => t.o.length - x.2.length, ⟨(0, []), ⟨0, Nat.zero_le _, rfl, fun h => absurd h (by omega)⟩, rfl, rfl, rfl, trivial⟩, ?_⟩
  rintro ⟨at', l⟩ ⟨k, hk, rfl, hat⟩
  dsimp only at hat ⊢
  have ll : (t.o.take k).length = k := by rw [List.length_take]; omega
  rw [ll]
  have step : ∀ a : Int, ((t.is.length : Int) :: (t.o ++ [(t.is.length : Int)]))[k]? = some a → k < t.o.length → t.o[k]? = some (t.ln.getD a.toNat (0, 0)).2 := by
    intro a ha hlt
    have hb : t.o[k]? = some t.o[k] := List.getElem?_eq_getElem hlt
    have := ring_get h.ring ha (b := t.o[k]) (by rw [List.getElem?_cons_succ, List.getElem?_append_left hlt]; exact hb)
    rw [this]
    exact hb
  have fin : ∀ a : Int, ((t.is.length : Int) :: (t.o ++ [(t.is.length : Int)]))[k]? = some a → k < t.o.length → ∃ y : Int × List Int, (∃ k, k ≤ t.o.length ∧ y.2 = t.o.take k ∧ (0 < k → t.o[k - 1]? = some y.1)) ∧ t.o.length - y.2.length < t.o.length - k ∧ (t.ln.getD a.toNat (0, 0)).2 = y.1 ∧ k + [(t.ln.getD a.toNat (0, 0)).2].length = y.2.length ∧ t.o.take k ++ [(t.ln.getD a.toNat (0, 0)).2] = y.2 ∧ True := by
    intro a ha hlt
    have hs := step a ha hlt
    have e : t.o.take (k + 1) = t.o.take k ++ [(t.ln.getD a.toNat (0, 0)).2] := by
      rw [List.take_succ, hs]
      rfl
    refine ⟨((t.ln.getD a.toNat (0, 0)).2, t.o.take (k + 1)), ⟨k + 1, hlt, rfl, fun _ => hs⟩, ?_, rfl, ?_, e.symm, trivial⟩
    · dsimp only
      rw [List.length_take]
      omega
    · dsimp only
      rw [List.length_take]
      simp
      omega
  refine ifB_d (fun hlt => ifB_d (fun h0 => ?_) fun h0 => ?_) fun hge => ?_
  · obtain rfl : k = 0 := by omega
    exact ⟨by omega, by simp, fin _ rfl (by omega)⟩
  · have ha := hat (by omega)
    have hm : at' ∈ t.o := List.mem_of_getElem? ha
    have := h.lt hm
    refine ⟨by omega, by simp; omega, fin at' ?_ (by omega)⟩
    obtain ⟨j, rfl⟩ : ∃ j, k = j + 1 := ⟨k - 1, by omega⟩
    rw [List.getElem?_cons_succ, List.getElem?_append_left (by omega)]
    exact ha
  · obtain rfl : k = t.o.length := by omega
    exact ⟨(), trivial, rfl, List.take_length, trivial⟩
theorem GO0 : Goods Tryz.prog O0 := goods_cons (good_of_owes hM hP GW0 Tryz.func238 rfl (o_otie ▸ p_otie)) GW0
theorem g_otouch : Good Tryz.prog 178 TouchO := good_of_owes hM hP GO0 Tryz.func178 rfl (o_otouch ▸ p_otouch)
theorem g_odrop : Good Tryz.prog 225 DropO := good_of_owes hM hP GO0 Tryz.func225 rfl (o_odrop ▸ p_odrop)
theorem g_oorder : Good Tryz.prog 98 OrderO := good_of_owes hM hP GW0 Tryz.func98 rfl (o_oorder ▸ p_oorder)
theorem g_olen : Good Tryz.prog 161 LenO := good_of_owes hM hP GW0 Tryz.func161 rfl (o_olen ▸ p_olen)
theorem g_onew : Good Tryz.prog 80 NewO := good_of_owes hM hP GW0 Tryz.func80 rfl (o_onew ▸ p_onew)
end Sp
end
section
set_option linter.all false
namespace Sp
open Go Go.Proofs Sx Go.Proofs.YthnhbnakpmkppaaGreat.Ma
abbrev Sp7 := Int × Int × Bool × Int × Int × Bool × Int
@[reducible] def slK : List Kd := [.i .u64, .i .u64, .b, .i .i64, .i .i64, .b, .i .i64]
structure Sl where
  l : List Sp7
  most : Int
  free : Int
  n : Int
def Sp7.rt (x : Sp7) : Rt := (x.1, x.2.1, x.2.2.1, x.2.2.2.1, x.2.2.2.2.1)
def Sp7.used (x : Sp7) : Bool := x.2.2.2.2.2.1
def Sp7.next (x : Sp7) : Int := x.2.2.2.2.2.2
def mk7 (r : Rt) (u : Bool) (n : Int) : Sp7 := (r.1, r.2.1, r.2.2.1, r.2.2.2.1, r.2.2.2.2, u, n)
def z7 : Sp7 := (0, 0, false, 0, 0, false, 0)
@[reducible] def slC (a : Nat) (s : Sl) : Ob := .cells [.f a s.l.length, .l (.i .i64 s.most), .l (.i .i64 s.free), .l (.i .i64 s.n)]
@[reducible] def slW (s : Sl) : List Ob := [slC 1 s, .row true slK s.l]
def Chain (l : List Sp7) : Int → List Int → Prop
  | f, [] => f = -1
  | f, i :: is => f = i ∧ Chain l (l.getD i.toNat z7).next is
structure okSl (s : Sl) : Prop where
  ch : ∃ fl : List Int, Chain s.l s.free fl ∧ fl.Nodup ∧ (∀ i : Int, i ∈ fl ↔ 0 ≤ i ∧ i < s.l.length ∧ (s.l.getD i.toNat z7).used = false) ∧ s.n + fl.length = s.l.length
  most : s.l.length ≤ s.most ∧ s.most ≤ 1024
  n : 0 ≤ s.n
def Sl.at (s : Sl) (i : Int) : Option Rt := if 0 ≤ i ∧ i < s.l.length ∧ (s.l.getD i.toNat z7).used = true then some (s.l.getD i.toNat z7).rt else none
@[reducible] def slOut (s : Sl) : List (Nat × Ob) := [(0, slC 2 s), (1, .gone), (2, .row true slK s.l)]
@[reducible] def slOut1 (s : Sl) : List (Nat × Ob) := [(0, slC 1 s), (1, .row true slK s.l)]
structure TakeP (s : Sl) (x : Rt) (y : Int × Sl) : Prop where
  ok : okSl y.2
  new : s.at y.1 = none ∧ 0 ≤ y.1 ∧ y.1 < s.most
  get : ∀ i, y.2.at i = if i = y.1 then some x else s.at i
  n : y.2.n = s.n + 1
  most : y.2.most = s.most
structure GiveP (s : Sl) (i : Int) (u : Sl) : Prop where
  ok : okSl u
  get : ∀ j, u.at j = if j = i then none else s.at j
  n : u.n = if (s.at i).isSome = true then s.n - 1 else s.n
  most : u.most = s.most
def TakeSl : Con := { X := Sl × Rt, args := fun x => [.one (.p 0 0), .agg (rtV x.2)], heap := fun x => slW x.1, pre := fun x => okSl x.1, outs := [{ Y := Int × Sl, post := fun x y => ifB (decide (x.1.n < x.1.most)) (TakeP x.1 x.2 y) (y = (0, x.1)), res := fun x y => .tup [.i .i64 y.1, .b (decide (x.1.n < x.1.most))], out := fun _ y => slOut y.2, nn := 1 }] }
def GiveSl : Con := { X := Sl × Int, args := fun x => [.one (.p 0 0), .i .i64 x.2], heap := fun x => slW x.1, pre := fun x => okSl x.1, outs := [{ Y := Sl, post := fun x u => GiveP x.1 x.2 u, res := fun x _ => .b (x.1.at x.2).isSome, out := fun _ u => slOut1 u, nn := 0 }] }
def zRt : Rt := (0, 0, false, 0, 0)
def AtSl : Con := .look (Sl × Int) (fun x => [.one (.p 0 0), .i .i64 x.2]) (fun x => slW x.1) (fun x => okSl x.1) fun x => .tup [.agg (rtV ((x.1.at x.2).getD zRt)), .b (x.1.at x.2).isSome]
def LenSl : Con := .look Sl (fun _ => [.one (.p 0 0)]) slW okSl fun s => .i .i64 s.n
def CapSl : Con := .look Sl (fun _ => [.one (.p 0 0)]) slW okSl fun s => .i .i64 s.most
def NewSl : Con := { X := Int, args := fun m => [.i .i64 m], heap := fun _ => [], pre := fun _ => True, outs := [{ Y := Unit, post := fun _ _ => True, res := fun _ _ => .a (.p 0 0), out := fun m _ => slOut1 ⟨[], max 0 (min m 1024), -1, 0⟩, nn := 2 }] }
def LqSl : FuncId → Nat → Lan
  | _, _ => .none
end Sp
end
section
set_option linter.all false
set_option maxRecDepth 100000
namespace Sp
open Go Go.Proofs Sx
@[reducible] def H_SpSlt_1 (v1 : Sl × Int) : Prop :=
 ∃ (b1 : Unit), True /\ (0 : Int) = ((v1.1.at v1.2).getD zRt).1 /\ (0 : Int) = ((v1.1.at v1.2).getD zRt).2.1 /\ false = ((v1.1.at v1.2).getD zRt).2.2.1 /\ (0 : Int) = ((v1.1.at v1.2).getD zRt).2.2.2.1
 /\ (0 : Int) = ((v1.1.at v1.2).getD zRt).2.2.2.2 /\ false = (v1.1.at v1.2).isSome /\ True
@[reducible] def H_SpSlt_2 (v1 : Sl × Int) : Prop :=
 ∃ (b1 : Sl), GiveP v1.1 v1.2 b1 /\ false = (v1.1.at v1.2).isSome /\ v1.1.l.length = b1.l.length /\ v1.1.most = b1.most /\ v1.1.free = b1.free /\ v1.1.n = b1.n /\ v1.1.l = b1.l /\ True
def T_sltake  : Prop :=
 ∀ (x : Sl × Rt), Sp.okSl x.1 -> ifB (decide (x.1.most <= x.1.n)) (∃ (y : Int × Sl), (ifB (decide (x.1.n < x.1.most)) (TakeP x.1 x.2 y) (y = ((0 : Int), x.1))) /\ (0 : Int) = y.1 /\ false = decide
 (x.1.n < x.1.most) /\ x.1.l.length = y.2.l.length /\ x.1.most = y.2.most /\ x.1.free = y.2.free /\ x.1.n = y.2.n /\ x.1.l = y.2.l /\ True) (ifB (decide (x.1.free = (-1 : Int))) (((x.1.l.length + (1 :
 Nat)) * (56 : Nat) <= (140737488355328 : Nat) /\ x.1.l.length + (1 : Nat) <= (140737488355328 : Nat)) /\ ((0 : Int) <= (↑x.1.l.length : Int) /\ (↑x.1.l.length : Int) < (↑(x.1.l.length + (1 : Nat)) :
 Int)) /\ ((-9223372036854775808 : Int) <= x.1.n + (1 : Int) /\ x.1.n + (1 : Int) <= (9223372036854775807 : Int)) /\ ∃ (y : Int × Sl), (ifB (decide (x.1.n < x.1.most)) (TakeP x.1 x.2 y) (y = ((0 :
 Int), x.1))) /\ (↑x.1.l.length : Int) = y.1 /\ true = decide (x.1.n < x.1.most) /\ x.1.l.length + (1 : Nat) = y.2.l.length /\ x.1.most = y.2.most /\ x.1.free = y.2.free /\ x.1.n + (1 : Int) = y.2.n /\
 (x.1.l ++ [((0 : Int), (0 : Int), false, (0 : Int), (0 : Int), false, (0 : Int))]).set (↑x.1.l.length : Int).toNat (x.2.1, x.2.2.1, x.2.2.2.1, x.2.2.2.2.1, x.2.2.2.2.2, true, (0 : Int)) = y.2.l /\
 True) (((0 : Int) <= x.1.free /\ x.1.free < (↑x.1.l.length : Int)) /\ ((0 : Int) <= x.1.free /\ x.1.free < (↑x.1.l.length : Int)) /\ ((-9223372036854775808 : Int) <= x.1.n + (1 : Int) /\ x.1.n + (1 :
 Int) <= (9223372036854775807 : Int)) /\ ∃ (y : Int × Sl), (ifB (decide (x.1.n < x.1.most)) (TakeP x.1 x.2 y) (y = ((0 : Int), x.1))) /\ x.1.free = y.1 /\ true = decide (x.1.n < x.1.most) /\
 x.1.l.length = y.2.l.length /\ x.1.most = y.2.most /\ (x.1.l.getD x.1.free.toNat ((0 : Int), (0 : Int), false, (0 : Int), (0 : Int), false, (0 : Int))).2.2.2.2.2.2 = y.2.free /\ x.1.n + (1 : Int) =
 y.2.n /\ x.1.l.set x.1.free.toNat (x.2.1, x.2.2.1, x.2.2.2.1, x.2.2.2.2.1, x.2.2.2.2.2, true, (0 : Int)) = y.2.l /\ True))
def T_slgive  : Prop :=
 ∀ (x : Sl × Int), Sp.okSl x.1 -> ifB (decide (x.2 < (0 : Int))) (H_SpSlt_2 x) (ifB (decide ((↑x.1.l.length : Int) <= x.2)) (H_SpSlt_2 x) (((0 : Int) <= x.2 /\ x.2 < (↑x.1.l.length : Int)) /\ ifB
 (!(x.1.l.getD x.2.toNat ((0 : Int), (0 : Int), false, (0 : Int), (0 : Int), false, (0 : Int))).2.2.2.2.2.1) (H_SpSlt_2 x) (((0 : Int) <= x.2 /\ x.2 < (↑x.1.l.length : Int)) /\ ((-9223372036854775808 :
 Int) <= x.1.n - (1 : Int) /\ x.1.n - (1 : Int) <= (9223372036854775807 : Int)) /\ ∃ (y : Sl), GiveP x.1 x.2 y /\ true = (x.1.at x.2).isSome /\ x.1.l.length = y.l.length /\ x.1.most = y.most /\ x.2 =
 y.free /\ x.1.n - (1 : Int) = y.n /\ x.1.l.set x.2.toNat ((0 : Int), (0 : Int), false, (0 : Int), (0 : Int), false, x.1.free) = y.l /\ True)))
def T_slat  : Prop :=
 ∀ (x : Sl × Int), Sp.okSl x.1 -> ifB (decide (x.2 < (0 : Int))) (H_SpSlt_1 x) (ifB (decide ((↑x.1.l.length : Int) <= x.2)) (H_SpSlt_1 x) (((0 : Int) <= x.2 /\ x.2 < (↑x.1.l.length : Int)) /\ ifB
 (!(x.1.l.getD x.2.toNat ((0 : Int), (0 : Int), false, (0 : Int), (0 : Int), false, (0 : Int))).2.2.2.2.2.1) (H_SpSlt_1 x) (((0 : Int) <= x.2 /\ x.2 < (↑x.1.l.length : Int)) /\ ∃ (y : Unit), True /\
 (x.1.l.getD x.2.toNat ((0 : Int), (0 : Int), false, (0 : Int), (0 : Int), false, (0 : Int))).1 = ((x.1.at x.2).getD zRt).1 /\ (x.1.l.getD x.2.toNat ((0 : Int), (0 : Int), false, (0 : Int), (0 : Int),
 false, (0 : Int))).2.1 = ((x.1.at x.2).getD zRt).2.1 /\ (x.1.l.getD x.2.toNat ((0 : Int), (0 : Int), false, (0 : Int), (0 : Int), false, (0 : Int))).2.2.1 = ((x.1.at x.2).getD zRt).2.2.1 /\
 (x.1.l.getD x.2.toNat ((0 : Int), (0 : Int), false, (0 : Int), (0 : Int), false, (0 : Int))).2.2.2.1 = ((x.1.at x.2).getD zRt).2.2.2.1 /\ (x.1.l.getD x.2.toNat ((0 : Int), (0 : Int), false, (0 : Int),
 (0 : Int), false, (0 : Int))).2.2.2.2.1 = ((x.1.at x.2).getD zRt).2.2.2.2 /\ true = (x.1.at x.2).isSome /\ True)))
def T_sllen  : Prop :=
 ∀ (x : Sl), Sp.okSl x -> ∃ (y : Unit), True /\ x.n = x.n /\ True
def T_slcap  : Prop :=
 ∀ (x : Sl), Sp.okSl x -> ∃ (y : Unit), True /\ x.most = x.most /\ True
def T_slnew  : Prop :=
 ∀ (x : Int), True -> ∃ (y : Unit), True /\ (0 : Nat) = (Sl.mk [] (max (0 : Int) (min x (1024 : Int))) (-1 : Int) (0 : Int)).l.length /\ max (0 : Int) (min x (1024 : Int)) = (Sl.mk [] (max (0 : Int)
 (min x (1024 : Int))) (-1 : Int) (0 : Int)).most /\ (-1 : Int) = (Sl.mk [] (max (0 : Int) (min x (1024 : Int))) (-1 : Int) (0 : Int)).free /\ (0 : Int) = (Sl.mk [] (max (0 : Int) (min x (1024 : Int)))
 (-1 : Int) (0 : Int)).n /\ [] = (Sl.mk [] (max (0 : Int) (min x (1024 : Int))) (-1 : Int) (0 : Int)).l /\ True
theorem o_sltake : owes Tryz.prog (tab W0) LqSl 1 159 Tryz.f159 TakeSl = T_sltake := by kernel_rfl
theorem o_slgive : owes Tryz.prog (tab W0) LqSl 1 226 Tryz.f226 GiveSl = T_slgive := by kernel_rfl
theorem o_slat : owes Tryz.prog (tab W0) LqSl 1 175 Tryz.f175 AtSl = T_slat := by kernel_rfl
theorem o_sllen : owes Tryz.prog (tab W0) LqSl 1 219 Tryz.f219 LenSl = T_sllen := by kernel_rfl
theorem o_slcap : owes Tryz.prog (tab W0) LqSl 1 155 Tryz.f155 CapSl = T_slcap := by kernel_rfl
theorem o_slnew : owes Tryz.prog (tab W0) LqSl 1 81 Tryz.f81 NewSl = T_slnew := by kernel_rfl
end Sp
end
section
set_option linter.all false
set_option maxRecDepth 10000
namespace Sp
theorem chain_frame {l l' : List Sp7} : ∀ {fl : List Int} {f : Int}, Chain l f fl → (∀ i ∈ fl, (l'.getD i.toNat z7).next = (l.getD i.toNat z7).next) → Chain l' f fl
  | [], _, h, _ => h
  | i :: is, f, ⟨h1, h2⟩, h => ⟨h1, by rw [h i List.mem_cons_self]; exact chain_frame h2 fun j hj => h j (List.mem_cons_of_mem _ hj)⟩
theorem getD_set7 {l : List Sp7} {i k : Nat} {z : Sp7} : (l.set i z).getD k z7 = if i = k ∧ i < l.length then z else l.getD k z7 := by
  rw [List.getD_eq_getElem?_getD, List.getElem?_set]
  by_cases h : i = k
  · subst h
    by_cases h2 : i < l.length
    · rw [if_pos rfl, if_pos h2, if_pos ⟨rfl, h2⟩]; rfl
    · rw [if_pos rfl, if_neg h2, if_neg (fun k => h2 k.2), List.getD_eq_getElem?_getD, List.getElem?_eq_none (by omega)]
  · rw [if_neg h, if_neg (fun k => h k.1), ← List.getD_eq_getElem?_getD]
theorem getD_app7 {l : List Sp7} {k : Nat} {z : Sp7} : (l ++ [z]).getD k z7 = if k = l.length then z else l.getD k z7 := by
  rw [List.getD_eq_getElem?_getD, List.getD_eq_getElem?_getD]
  rcases Nat.lt_trichotomy k l.length with h | h | h
  · rw [List.getElem?_append_left h, if_neg (by omega)]
  · subst h; rw [List.getElem?_append_right (Nat.le_refl _), if_pos rfl]; simp
  · rw [List.getElem?_append_right (by omega), if_neg (by omega), List.getElem?_eq_none (by simp; omega), List.getElem?_eq_none (by omega)]
theorem rt_mk7 (r : Rt) (u : Bool) (n : Int) : (mk7 r u n).rt = r := rfl
theorem takeA_ok {s : Sl} {x : Rt} (h : okSl s) (hn : s.n < s.most) (hf : s.free = -1) : (s.l.length : Int) < s.most ∧ TakeP s x ((s.l.length : Int), ⟨(s.l ++ [z7]).set s.l.length (mk7 x true 0), s.most, s.free, s.n + 1⟩) := by
  obtain ⟨fl, h1, h2, h3, h4⟩ := h.ch
  obtain rfl : fl = [] := by
    cases fl with
    | nil => rfl
    | cons i is =>
      obtain ⟨h5, _⟩ := h1
      have := ((h3 i).1 List.mem_cons_self).1
      omega
  have hlt : (s.l.length : Int) < s.most := by simp at h4; omega
  have hg : ∀ k, ((s.l ++ [z7]).set s.l.length (mk7 x true 0)).getD k z7 = if k = s.l.length then mk7 x true 0 else s.l.getD k z7 := by
    intro k
    rw [getD_set7, getD_app7, List.length_append]
    by_cases e : k = s.l.length
    · rw [if_pos ⟨e.symm, by simp⟩, if_pos e]
    · rw [if_neg (fun h => e h.1.symm), if_neg e, if_neg e]
  refine ⟨hlt, ⟨⟨[], hf, List.nodup_nil, fun i => ?_, by simp at h4 ⊢; omega⟩, ⟨by simp; omega, h.most.2⟩, by have := h.n; dsimp only; omega⟩, ⟨?_, by dsimp only; omega, hlt⟩, fun i => ?_, rfl, rfl⟩
  · dsimp only
    rw [hg]
    simp only [List.length_set, List.length_append, List.length_cons, List.length_nil]
    constructor
    · intro h; cases h
    · rintro ⟨k1, k2, k3⟩
      split at k3
      · cases k3
      · exact (h3 i).2 ⟨k1, by omega, k3⟩
  · unfold Sl.at
    rw [if_neg]
    rintro ⟨_, h, _⟩
    dsimp only at h
    omega
  · unfold Sl.at
    dsimp only
    rw [hg]
    simp only [List.length_set, List.length_append, List.length_cons, List.length_nil]
    by_cases e : i = s.l.length
    · subst e
      rw [if_pos rfl, if_pos ⟨by omega, by omega, by rw [if_pos (by omega)]; rfl⟩, if_pos (by omega)]
      rfl
    · rw [if_neg e]
      by_cases e2 : i.toNat = s.l.length
      · rw [if_neg (by omega), if_neg (by omega)]
      · rw [if_neg e2]
        by_cases c : 0 ≤ i ∧ i < s.l.length ∧ (s.l.getD i.toNat z7).used = true
        · rw [if_pos c, if_pos ⟨c.1, by omega, c.2.2⟩]
        · rw [if_neg c, if_neg (fun h => c ⟨h.1, by omega, h.2.2⟩)]
theorem takeB_ok {s : Sl} {x : Rt} (h : okSl s) (hn : s.n < s.most) (hf : s.free ≠ -1) : (0 ≤ s.free ∧ s.free < s.l.length) ∧ TakeP s x (s.free, ⟨s.l.set s.free.toNat (mk7 x true 0), s.most, (s.l.getD s.free.toNat z7).next, s.n + 1⟩) := by
  obtain ⟨fl, h1, h2, h3, h4⟩ := h.ch
  cases fl with
  | nil => exact absurd h1 hf
  | cons i is =>
    obtain ⟨h5, h6⟩ := h1
    have hi := (h3 i).1 List.mem_cons_self
    rw [h5]
    have hni : i ∉ is := (List.nodup_cons.1 h2).1
    refine ⟨⟨hi.1, hi.2.1⟩, ⟨⟨is, chain_frame h6 fun j hj => ?_, (List.nodup_cons.1 h2).2, fun j => ?_, by simp at h4 ⊢; omega⟩, ⟨by simpa using h.most.1, h.most.2⟩, by have := h.n; dsimp only; omega⟩, ⟨?_, hi.1, ?_⟩, fun j => ?_, rfl, rfl⟩
    · have := (h3 j).1 (List.mem_cons_of_mem _ hj)
      have hne : j ≠ i := fun e => hni (e ▸ hj)
      rw [getD_set7, if_neg (by omega)]
    · dsimp only
      rw [getD_set7, List.length_set]
      constructor
      · intro hj
        have := (h3 j).1 (List.mem_cons_of_mem _ hj)
        have hne : j ≠ i := fun e => hni (e ▸ hj)
        exact ⟨this.1, this.2.1, by rw [if_neg (by omega)]; exact this.2.2⟩
      · rintro ⟨k1, k2, k3⟩
        split at k3
        · cases k3
        · rename_i hc
          have := (h3 j).2 ⟨k1, k2, k3⟩
          rcases List.mem_cons.1 this with rfl | h
          · exact absurd ⟨rfl, by omega⟩ hc
          · exact h
    · unfold Sl.at
      dsimp only
      rw [if_neg]
      rintro ⟨_, _, h⟩
      rw [hi.2.2] at h
      cases h
    · have := h.most; dsimp only; omega
    · unfold Sl.at
      dsimp only
      rw [getD_set7, List.length_set]
      by_cases e : j = i
      · subst e
        rw [if_pos rfl, if_pos ⟨by omega, by omega, by rw [if_pos ⟨rfl, by omega⟩]; rfl⟩, if_pos ⟨rfl, by omega⟩]
        rfl
      · rw [if_neg e]
        by_cases e2 : i.toNat = j.toNat ∧ i.toNat < s.l.length
        · rw [if_neg (by omega), if_neg (by omega)]
        · rw [if_neg e2]
theorem at_some {s : Sl} {i : Int} (h : (s.at i).isSome = true) : 0 ≤ i ∧ i < s.l.length ∧ (s.l.getD i.toNat z7).used = true := by
  unfold Sl.at at h
  split at h
  · rename_i c; exact c
  · cases h
theorem at_none {s : Sl} {i : Int} (h : (s.at i).isSome = false) : ¬ (0 ≤ i ∧ i < s.l.length ∧ (s.l.getD i.toNat z7).used = true) := by
  intro c
  unfold Sl.at at h
  rw [if_pos c] at h
  cases h
theorem giveA_ok {s : Sl} {i : Int} (h : okSl s) (hi : (s.at i).isSome = true) : 0 ≤ s.n - 1 ∧ GiveP s i ⟨s.l.set i.toNat (mk7 zRt false s.free), s.most, i, s.n - 1⟩ := by
  obtain ⟨i0, i1, i2⟩ := at_some hi
  obtain ⟨fl, h1, h2, h3, h4⟩ := h.ch
  have hni : i ∉ fl := fun k => by have := ((h3 i).1 k).2.2; rw [i2] at this; cases this
  have hgt : fl.length < s.l.length := by
    rcases Nat.lt_or_ge fl.length s.l.length with h | hge
    · exact h
    · exfalso
      have sub : (i :: fl).length ≤ ((List.range s.l.length).map fun k : Nat => (k : Int)).length := by
        refine (List.nodup_cons.2 ⟨hni, h2⟩).length_le_of_subset fun j hj => ?_
        rcases List.mem_cons.1 hj with rfl | hj
        · exact List.mem_map.2 ⟨j.toNat, List.mem_range.2 (by omega), by omega⟩
        · have := (h3 j).1 hj
          exact List.mem_map.2 ⟨j.toNat, List.mem_range.2 (by omega), by omega⟩
      simp at sub
      omega
  refine ⟨by omega, ⟨⟨i :: fl, ⟨rfl, ?_⟩, List.nodup_cons.2 ⟨hni, h2⟩, fun j => ?_, by simp; omega⟩, ⟨by simpa using h.most.1, h.most.2⟩, by dsimp only; omega⟩, fun j => ?_, by rw [hi]; rfl, rfl⟩
  · dsimp only
    rw [getD_set7, if_pos ⟨rfl, by omega⟩]
    refine chain_frame h1 fun j hj => ?_
    have := (h3 j).1 hj
    have hne : j ≠ i := fun e => hni (e ▸ hj)
    rw [getD_set7, if_neg (by omega)]
  · dsimp only
    rw [getD_set7, List.length_set, List.mem_cons]
    constructor
    · rintro (rfl | hj)
      · exact ⟨i0, i1, by rw [if_pos ⟨rfl, by omega⟩]; rfl⟩
      · have := (h3 j).1 hj
        have hne : j ≠ i := fun e => hni (e ▸ hj)
        exact ⟨this.1, this.2.1, by rw [if_neg (by omega)]; exact this.2.2⟩
    · rintro ⟨k1, k2, k3⟩
      by_cases e : j = i
      · exact .inl e
      · rw [if_neg (by omega)] at k3
        exact .inr ((h3 j).2 ⟨k1, k2, k3⟩)
  · unfold Sl.at
    dsimp only
    rw [getD_set7, List.length_set]
    by_cases e : j = i
    · subst e
      rw [if_pos rfl, if_neg]
      rintro ⟨_, _, h⟩
      rw [if_pos ⟨rfl, by omega⟩] at h
      cases h
    · rw [if_neg e]
      by_cases e2 : i.toNat = j.toNat ∧ i.toNat < s.l.length
      · rw [if_neg (by omega), if_neg (by omega)]
      · rw [if_neg e2]
theorem giveB_ok {s : Sl} {i : Int} (h : okSl s) (hi : (s.at i).isSome = false) : GiveP s i s := by
  refine ⟨h, fun j => ?_, by rw [hi]; rfl, rfl⟩
  split
  · rename_i e
    subst e
    cases hs : s.at j with
    | none => rfl
    | some x => rw [hs] at hi; cases hi
  · rfl
end Sp
end
section
set_option linter.all false
set_option maxRecDepth 10000
namespace Sp
open Go Go.Proofs Sx Go.Proofs.YthnhbnakpmkppaaGreat.Ma
theorem ite_of_true {c : Prop} [Decidable c] {α : Sort _} {a b : α} (h : c) : (if c then a else b) = a := if_pos h
theorem okSl.nle {s : Sl} (h : Sp.okSl s) : s.n ≤ 1024 ∧ 0 ≤ s.most ∧ s.l.length ≤ 1024 ∧ 0 ≤ s.n := by
  obtain ⟨fl, _, _, _, h4⟩ := h.ch
  have := h.most
  have := h.n
  omega
theorem p_sltake : T_sltake := by
  rintro ⟨s, x⟩ h
  dsimp only at h ⊢
  have hb := h.nle
  refine ifB_d (fun h1 => ?_) fun h1 => ifB_d (fun h2 => ?_) fun h2 => ?_
  · rw [decide_eq_false (by omega)]
    exact ⟨(0, s), rfl, rfl, rfl, rfl, rfl, rfl, rfl, rfl, trivial⟩
  · rw [decide_eq_true (by omega)]
    obtain ⟨q1, q2⟩ := takeA_ok (x := x) h (by omega) h2
    exact ⟨by omega, by omega, by omega, _, q2, rfl, rfl, by simp, rfl, rfl, rfl, rfl, trivial⟩
  · rw [decide_eq_true (by omega)]
    obtain ⟨q1, q2⟩ := takeB_ok (x := x) h (by omega) h2
    exact ⟨q1, q1, by omega, _, q2, rfl, rfl, by simp, rfl, rfl, rfl, rfl, trivial⟩
theorem p_slgive : T_slgive := by
  unfold T_slgive; try dsimp only [H_SpSlt_2]
  rintro ⟨s, i⟩ h
  dsimp only at h ⊢
  have hb := h.nle
  have out : s.at i = none → ∃ y : Sl, GiveP s i y ∧ false = (s.at i).isSome ∧ s.l.length = y.l.length ∧ s.most = y.most ∧ s.free = y.free ∧ s.n = y.n ∧ s.l = y.l ∧ True := fun e => ⟨s, giveB_ok h (by rw [e]; rfl), by rw [e]; rfl, rfl, rfl, rfl, rfl, rfl, trivial⟩
  refine ifB_d (fun h1 => out ?_) fun h1 => ifB_d (fun h2 => out ?_) fun h2 => ⟨by omega, ifB_b (fun h3 => out ?_) fun h3 => ?_⟩
  · unfold Sl.at; rw [if_neg (by omega)]
  · unfold Sl.at; rw [if_neg (by omega)]
  · unfold Sl.at
    rw [if_neg]
    rintro ⟨_, _, k⟩
    have k : (s.l.getD i.toNat (0, 0, false, 0, 0, false, 0)).2.2.2.2.2.1 = true := k
    rw [k] at h3
    cases h3
  · have e : (s.at i).isSome = true := by
      have k : (s.l.getD i.toNat z7).used = true := by
        have k : (s.l.getD i.toNat (0, 0, false, 0, 0, false, 0)).2.2.2.2.2.1 = true := by simpa using h3
        exact k
      unfold Sl.at
      rw [if_pos ⟨by omega, by omega, k⟩]
      try rfl
    obtain ⟨q1, q2⟩ := giveA_ok h e
    exact ⟨by omega, by omega, _, q2, e.symm, by simp, rfl, rfl, rfl, rfl, trivial⟩
theorem p_slat : T_slat := by
  unfold T_slat; try dsimp only [H_SpSlt_1]
  rintro ⟨s, i⟩ h
  dsimp only at h ⊢
  have out : s.at i = none → ∃ y : Unit, True ∧ 0 = ((s.at i).getD zRt).1 ∧ 0 = ((s.at i).getD zRt).2.1 ∧ false = ((s.at i).getD zRt).2.2.1 ∧ 0 = ((s.at i).getD zRt).2.2.2.1 ∧ 0 = ((s.at i).getD zRt).2.2.2.2 ∧ false = (s.at i).isSome ∧ True := fun e => by
    rw [e]; exact ⟨(), trivial, rfl, rfl, rfl, rfl, rfl, rfl, trivial⟩
  refine ifB_d (fun h1 => out ?_) fun h1 => ifB_d (fun h2 => out ?_) fun h2 => ⟨by omega, ifB_b (fun h3 => out ?_) fun h3 => ?_⟩
  · unfold Sl.at; rw [if_neg (by omega)]
  · unfold Sl.at; rw [if_neg (by omega)]
  · unfold Sl.at
    rw [if_neg]
    rintro ⟨_, _, k⟩
    have k : (s.l.getD i.toNat (0, 0, false, 0, 0, false, 0)).2.2.2.2.2.1 = true := k
    rw [k] at h3
    cases h3
  · have e : s.at i = some (s.l.getD i.toNat z7).rt := by
      have k : (s.l.getD i.toNat z7).used = true := by
        have k : (s.l.getD i.toNat (0, 0, false, 0, 0, false, 0)).2.2.2.2.2.1 = true := by simpa using h3
        exact k
      unfold Sl.at
      rw [if_pos ⟨by omega, by omega, k⟩]
      try rfl
    rw [e]
    exact ⟨by omega, (), trivial, rfl, rfl, rfl, rfl, rfl, rfl, trivial⟩
theorem p_sllen : T_sllen := fun s h => ⟨(), trivial, rfl, trivial⟩
theorem p_slcap : T_slcap := fun s h => ⟨(), trivial, rfl, trivial⟩
theorem p_slnew : T_slnew := fun m h => ⟨(), trivial, rfl, rfl, rfl, rfl, rfl, trivial⟩
theorem newSl_ok (m : Int) : Sp.okSl ⟨[], max 0 (min m 1024), -1, 0⟩ := ⟨⟨[], rfl, List.nodup_nil, fun i => Iff.intro (fun h => absurd h List.not_mem_nil) (fun h => absurd h.2.1 (by simp; omega)), rfl⟩, by simp; omega, Int.le_refl 0⟩
theorem newSl_at (m i : Int) : (Sl.mk [] (max 0 (min m 1024)) (-1) 0).at i = none := by
  unfold Sl.at
  rw [if_neg]
  rintro ⟨h1, h2, _⟩
  simp at h2
  omega
theorem g_sltake : Good Tryz.prog 159 TakeSl := good_of_owes hM hP GW0 Tryz.func159 rfl (o_sltake ▸ p_sltake)
theorem g_slgive : Good Tryz.prog 226 GiveSl := good_of_owes hM hP GW0 Tryz.func226 rfl (o_slgive ▸ p_slgive)
theorem g_slat : Good Tryz.prog 175 AtSl := good_of_owes hM hP GW0 Tryz.func175 rfl (o_slat ▸ p_slat)
theorem g_sllen : Good Tryz.prog 219 LenSl := good_of_owes hM hP GW0 Tryz.func219 rfl (o_sllen ▸ p_sllen)
theorem g_slcap : Good Tryz.prog 155 CapSl := good_of_owes hM hP GW0 Tryz.func155 rfl (o_slcap ▸ p_slcap)
theorem g_slnew : Good Tryz.prog 81 NewSl := good_of_owes hM hP GW0 Tryz.func81 rfl (o_slnew ▸ p_slnew)
end Sp
end
section
set_option linter.all false
namespace Sp
open Go Go.Proofs Sx Go.Proofs.YthnhbnakpmkppaaGreat.Ma
def b2i (b : Bool) : Int := if b = true then 1 else 0
def wordsA (a : Ad) : List Bool := toB 64 a.1.toNat ++ toB 64 a.2.1.toNat
def RawS : Con := .pure (Ad × Int) (fun x => [.agg (adV x.1), .i .i64 x.2]) (fun x => wfA x.1 ∧ 0 ≤ x.2 ∧ x.2 < 128) fun x => .i .i64 (b2i ((wordsA x.1).getD x.2.toNat false))
def SaneAS : Con := .pure Ad (fun a => [.agg (adV a)]) wfA fun a => .b (saneA a)
def bitZ (a : Ad) (i : Int) : Int := if 0 ≤ i then b2i ((bitsA a).getD i.toNat false) else 0
def BitS : Con := .pure (Ad × Int) (fun x => [.agg (adV x.1), .i .i64 x.2]) (fun x => wfA x.1) fun x => .i .i64 (bitZ x.1 x.2)
def DigitsS : Con := .row1 Ad (fun a => [.agg (adV a)]) (fun _ => []) 0 wfA intK (fun a => (bitsA a).map b2i) fun _ a => .a a
def OfLS : Con := .look (List Bool) (fun l => [.one (.f 0 l.length)]) (fun l => [.row false intK (l.map b2i)]) (fun l => l.length = 32 ∨ l.length = 128) fun l => .v (.agg (adV (ofB (decide (l.length = 128)) l)))
def SameS : Con := .look (List Rt × List Rt) (fun x => [.one (.f 0 x.1.length), .one (.f 1 x.2.length)]) (fun x => [.row false rtK x.1, .row false rtK x.2]) (fun x => x.1.length ≤ 1000000000 ∧ x.2.length ≤ 1000000000) fun x => .b (decide (x.1 = x.2))
def Rw : List (Nat × Con) := W2
def R0 : List (Nat × Con) := (187, WidthZ) :: Rw
def R1 : List (Nat × Con) := (242, RawS) :: R0
def R2 : List (Nat × Con) := (186, SaneAS) :: (188, BitS) :: (305, DigitsS) :: (306, OfLS) :: R1
def R3 : List (Nat × Con) := (107, SaneZ) :: (315, BytesS) :: (31, SameS) :: R2
def R4 : List (Nat × Con) := (309, PutS) :: R3
def LqR : FuncId → Nat → Lan
  | 186, _ => .inv { X := Int, slots := [3], vals := fun x => [.i .i64 x], fix := [], new := [], drop := [], obs := fun x => [] }
  | 107, _ => .inv { X := Int, slots := [3], vals := fun x => [.i .i64 x], fix := [], new := [], drop := [], obs := fun x => [] }
  | 305, _ => .inv { X := Int × List Int, slots := [4, 3], vals := fun x => [.i .i64 x.1, .a (.f 1 x.2.length)], fix := [], new := [1], drop := [], obs := fun x => [.row true intK x.2] }
  | 306, _ => .inv { X := Int × Int × Int × Bool, slots := [4], vals := fun x => [.i .i64 x.1], fix := [2], new := [], drop := [], obs := fun x => [.cells [.l (.i .u64 x.2.1), .l (.i .u64 x.2.2.1), .l (.b x.2.2.2)]] }
  | 315, _ => .inv { X := Int × List Int, slots := [5], vals := fun x => [.i .i64 x.1], fix := [3], new := [], drop := [], obs := fun x => [.row true u8K x.2] }
  | 31, _ => .inv { X := Int, slots := [5], vals := fun x => [.i .i64 x], fix := [], new := [], drop := [], obs := fun x => [] }
  | _, _ => .none
end Sp
end
