/- A symbolic walk: formal heaps and actual ones. -/
import Derived.Test.YtcilcmbailoeaaaSxN
set_option linter.all false
namespace Sx
open Go
/-- What formal labels stand for, in the words of the actual heap. -/
def rnOK (ν : Nu) (N : Nat) (νf : Nu) (r : Rn) : Prop := ∀ l a, rget r l = some a → match a with
  | .p l' o => o = 0 ∧ l' < N ∧ νf.blk l = ν.blk l'
  | .f l' n => relA ν N (.f l' n) (νf.sv l)
  | .sb l' z x y => relA ν N (.sb l' z x y) (νf.sv l)
  | .ns => νf.sv l = .slice none 0 0
  | .z => relA ν N .z (νf.sv l)
  | _ => False
structure RExt (r : Rn) (νf : Nu) (r' : Rn) (νf' : Nu) : Prop where
  mono : ∀ l a, rget r l = some a → rget r' l = some a
  same : ∀ l a, rget r l = some a → νf'.blk l = νf.blk l ∧ νf'.sv l = νf.sv l
theorem RExt.refl (r : Rn) (νf : Nu) : RExt r νf r νf := ⟨fun _ _ h => h, fun _ _ _ => ⟨rfl, rfl⟩⟩
theorem RExt.trans {r r1 r2 : Rn} {ν ν1 ν2 : Nu} (h : RExt r ν r1 ν1) (k : RExt r1 ν1 r2 ν2) : RExt r ν r2 ν2 :=
  ⟨fun l a hl => k.mono l a (h.mono l a hl), fun l a hl => ⟨(k.same l a (h.mono l a hl)).1.trans (h.same l a hl).1, (k.same l a (h.mono l a hl)).2.trans (h.same l a hl).2⟩⟩
/-- True from here on. -/
def FA (r : Rn) (νf : Nu) (X : Nu → Nat → Prop) : Prop := ∀ r2 ν2 M, RExt r νf r2 ν2 → (∀ l a, rget r2 l = some a → l < M) → X ν2 M
theorem FA.ext {r r' : Rn} {νf νf' : Nu} {X : Nu → Nat → Prop} (h : FA r νf X) (e : RExt r νf r' νf') : FA r' νf' X := fun r2 ν2 M e2 hM => h r2 ν2 M (e.trans e2) hM
theorem rget_cons (l : Nat) (a : A) (r : Rn) (k : Nat) : rget ((l, a) :: r) k = if l = k then some a else rget r k := by
  show (match Nat.beq l k with | true => some a | false => rget r k) = _
  by_cases h : l = k
  · subst h; simp
  · have : Nat.beq l k = false := beq_no h
    simp [this, h]
def Nu.putB (ν : Nu) (l b : Nat) : Nu := ⟨fun k => if k = l then b else ν.blk k, ν.sv, ν.fp⟩
def Nu.putS (ν : Nu) (l : Nat) (v : Value) : Nu := ⟨ν.blk, fun k => if k = l then v else ν.sv k, ν.fp⟩
section
variable {ν νf : Nu} {N : Nat} {w : World} {H : Hp} {r : Rn} {K : Rn → Prop}
theorem ext_putB {l b : Nat} {a : A} (h : rget r l = none) : RExt r νf ((l, a) :: r) (νf.putB l b) := by
  have hne : ∀ k c, rget r k = some c → k ≠ l := fun k c hk e => by rw [e, h] at hk; cases hk
  exact ⟨fun k c hk => by rw [rget_cons, if_neg (Ne.symm (hne k c hk))]; exact hk, fun k c hk => by simp [Nu.putB, hne k c hk]⟩
theorem ext_putS {l : Nat} {v : Value} {a : A} (h : rget r l = none) : RExt r νf ((l, a) :: r) (νf.putS l v) := by
  have hne : ∀ k c, rget r k = some c → k ≠ l := fun k c hk e => by rw [e, h] at hk; cases hk
  exact ⟨fun k c hk => by rw [rget_cons, if_neg (Ne.symm (hne k c hk))]; exact hk, fun k c hk => by simp [Nu.putS, hne k c hk]⟩
theorem rnOK_putB {l l' : Nat} (hr : rnOK ν N νf r) (h : rget r l = none) (hl : l' < N) : rnOK ν N (νf.putB l (ν.blk l')) ((l, .p l' 0) :: r) := by
  intro k a hk
  rw [rget_cons] at hk
  split at hk
  · rename_i e
    cases hk
    subst e
    exact ⟨rfl, hl, by simp [Nu.putB]⟩
  · rename_i e
    have := hr k a hk
    cases a <;> first | exact this | exact ⟨this.1, this.2.1, by simp [Nu.putB, Ne.symm e, this.2.2]⟩
theorem rnOK_putS {l : Nat} {a : A} {v : Value} (hr : rnOK ν N νf r) (h : rget r l = none) (ha : match a with | .f _ _ => relA ν N a v | .sb _ _ _ _ => relA ν N a v | .ns => v = .slice none 0 0 | .z => relA ν N .z v | _ => False) : rnOK ν N (νf.putS l v) ((l, a) :: r) := by
  intro k b hk
  rw [rget_cons] at hk
  split at hk
  · rename_i e
    cases hk
    subst e
    cases a <;> simp only [Nu.putS, if_pos] <;> first | exact ha | exact ha.elim
  · rename_i e
    have := hr k b hk
    cases b <;> simp only [Nu.putS, if_neg (Ne.symm e)] <;> exact this
abbrev MtOK (ν : Nu) (N : Nat) (r : Rn) (νf : Nu) (K : Rn → Prop) (X : Nu → Nat → Prop) : Prop := ∃ r' νf', K r' ∧ rnOK ν N νf' r' ∧ RExt r νf r' νf' ∧ FA r' νf' X
theorem mtL_sound {x y : L} {Q : Prop} (h : mtL x y Q) : y = x ∧ Q := by
  unfold mtL at h
  split at h
  · split at h
    · rename_i hk
      have := of_decide_eq_true hk
      subst this
      exact ⟨by rw [h.1], h.2⟩
    · exact h.elim
  · exact ⟨by rw [h.1], h.2⟩
  · exact ⟨by rw [h.1], h.2⟩
  · exact h.elim
theorem mtP_sound (hr : rnOK ν N νf r) {l o l' o' : Nat} (hl' : l' < N) (h : mtP r l o l' o' K) : MtOK ν N r νf K fun ν2 M => l < M ∧ ν.blk l' = ν2.blk l ∧ o' = o := by
  unfold mtP at h
  split at h
  · rename_i ho hn
    have ho := Nat.eq_of_beq_eq_true ho
    subst ho
    refine ⟨_, _, h, rnOK_putB hr hn hl', ext_putB hn, fun r2 ν2 M e hM => ?_⟩
    have hg : rget ((l, A.p l' 0) :: r) l = some (.p l' 0) := by rw [rget_cons, if_pos rfl]
    exact ⟨hM l _ (e.mono l _ hg), by rw [(e.same l _ hg).1]; simp [Nu.putB], rfl⟩
  · rename_i m q ho hs
    have ho := Nat.eq_of_beq_eq_true ho
    subst ho
    split at h
    · rename_i hm
      have hm := Nat.eq_of_beq_eq_true hm
      subst hm
      refine ⟨r, νf, h, hr, RExt.refl _ _, fun r2 ν2 M e hM => ?_⟩
      exact ⟨hM l _ (e.mono l _ hs), by rw [(e.same l _ hs).1]; exact (hr l _ hs).2.2.symm, rfl⟩
    · exact h.elim
  · exact h.elim
theorem mtPs_sound : ∀ {cs ds : List (Nat × Nat)} {r : Rn} {νf : Nu}, rnOK ν N νf r → (∀ q ∈ ds, q.1 < N) → mtPs r cs ds K → MtOK ν N r νf K fun ν2 M => (∀ q ∈ cs, q.1 < M) ∧ (ds.map fun q => Value.pointer (some ⟨ν.blk q.1, q.2, none⟩)) = cs.map fun q => Value.pointer (some ⟨ν2.blk q.1, q.2, none⟩)
  | [], [], r, νf, hr, _, h => ⟨r, νf, h, hr, RExt.refl _ _, fun _ _ _ _ _ => ⟨by simp, rfl⟩⟩
  | c :: cs, d :: ds, r, νf, hr, hd, h => by
    obtain ⟨r1, ν1, h1, hr1, e1, f1⟩ := mtP_sound hr (hd d (by simp)) h
    obtain ⟨r2, ν2, h2, hr2, e2, f2⟩ := mtPs_sound hr1 (fun q hq => hd q (by simp [hq])) h1
    refine ⟨r2, ν2, h2, hr2, e1.trans e2, fun r3 ν3 M e hM => ?_⟩
    obtain ⟨p1, p2, p3⟩ := f1.ext e2 r3 ν3 M e hM
    obtain ⟨q1, q2⟩ := f2 r3 ν3 M e hM
    refine ⟨fun q hq => ?_, ?_⟩
    · rcases List.mem_cons.1 hq with rfl | hq
      · exact p1
      · exact q1 q hq
    · rw [List.map_cons, List.map_cons, q2, p2, p3]
  | [], _ :: _, _, _, _, _, h => h.elim
  | _ :: _, [], _, _, _, _, h => h.elim
theorem mtA_sound {a a' : A} {v : Value} (hr : rnOK ν N νf r) (ha : relA ν N a' v) (h : mtA r a a' K) : MtOK ν N r νf K fun ν2 M => relA ν2 M a v := by
  unfold mtA at h
  split at h
  · exact ⟨r, νf, h, hr, RExt.refl _ _, fun _ _ _ _ _ => trivial⟩
  · obtain ⟨rfl, h2⟩ := mtL_sound h
    exact ⟨r, νf, h2, hr, RExt.refl _ _, fun _ _ _ _ _ => ha⟩
  · rename_i l o l' o'
    obtain ⟨hl', rfl⟩ := ha
    obtain ⟨r1, ν1, h1, hr1, e1, f1⟩ := mtP_sound hr hl' h
    refine ⟨r1, ν1, h1, hr1, e1, fun r2 ν2 M e hM => ?_⟩
    obtain ⟨p1, p2, p3⟩ := f1 r2 ν2 M e hM
    exact ⟨p1, by rw [p2, p3]⟩
  · rename_i l n l' n'
    split at h
    · rename_i hn
      obtain ⟨rfl, h⟩ := h
      obtain ⟨hl', rfl, base, cap, hsv, hok⟩ := ha
      refine ⟨_, _, h, rnOK_putS (v := ν.sv l') hr hn ⟨hl', rfl, base, cap, hsv, hok⟩, ext_putS hn, fun r2 ν2 M e hM => ?_⟩
      have hg : rget ((l, A.f l' n') :: r) l = some (.f l' n') := by rw [rget_cons, if_pos rfl]
      have hs : ν2.sv l = ν.sv l' := by rw [(e.same l _ hg).2]; simp [Nu.putS]
      exact ⟨hM l _ (e.mono l _ hg), hs.symm, base, cap, by rw [hs]; exact hsv, hok⟩
    · rename_i m q hs
      split at h
      · rename_i hm
        have hm := Nat.eq_of_beq_eq_true hm
        subst hm
        obtain ⟨rfl, h⟩ := h
        obtain ⟨hl', rfl, base, cap, hsv, hok⟩ := ha
        obtain ⟨_, hsv2, _⟩ := hr l _ hs
        refine ⟨r, νf, h, hr, RExt.refl _ _, fun r2 ν2 M e hM => ?_⟩
        have hs2 : ν2.sv l = ν.sv m := by rw [(e.same l _ hs).2, hsv2]
        exact ⟨hM l _ (e.mono l _ hs), hs2.symm, base, cap, by rw [hs2]; exact hsv, hok⟩
      · exact h.elim
    · exact h.elim
  · rename_i l n l' z x y
    split at h
    · rename_i hn
      obtain ⟨rfl, h⟩ := h
      have ha' := ha
      obtain ⟨hl', base, n, cap, base', hsv, hab, hbn, hok, rfl, hba, hok'⟩ := ha
      refine ⟨_, _, h, rnOK_putS (v := .slice base' (y - x) (cap - x)) hr hn ha', ext_putS hn, fun r2 ν2 M e hM => ?_⟩
      have hg : rget ((l, A.sb l' z x y) :: r) l = some (.sb l' z x y) := by rw [rget_cons, if_pos rfl]
      have hs : ν2.sv l = .slice base' (y - x) (cap - x) := by rw [(e.same l _ hg).2]; simp [Nu.putS]
      exact ⟨hM l _ (e.mono l _ hg), hs.symm, base', cap - x, hs, hok'⟩
    · exact h.elim
  · rename_i l n
    cases ha
    split at h
    · rename_i hn
      obtain ⟨rfl, h⟩ := h
      refine ⟨_, _, h, rnOK_putS (a := .ns) (v := .slice none 0 0) hr hn rfl, ext_putS hn, fun r2 ν2 M e hM => ?_⟩
      have hg : rget ((l, A.ns) :: r) l = some .ns := by rw [rget_cons, if_pos rfl]
      have hs : ν2.sv l = .slice none 0 0 := by rw [(e.same l _ hg).2]; simp [Nu.putS]
      exact ⟨hM l _ (e.mono l _ hg), hs.symm, none, 0, hs, ⟨⟨Nat.le_refl _, Nat.zero_le _⟩, nofun, fun _ => rfl⟩⟩
    · rename_i hs
      obtain ⟨rfl, h⟩ := h
      refine ⟨r, νf, h, hr, RExt.refl _ _, fun r2 ν2 M e hM => ?_⟩
      have hs2 : ν2.sv l = .slice none 0 0 := by rw [(e.same l _ hs).2]; exact hr l _ hs
      exact ⟨hM l _ (e.mono l _ hs), hs2.symm, none, 0, hs2, ⟨⟨Nat.le_refl _, Nat.zero_le _⟩, nofun, fun _ => rfl⟩⟩
    · exact h.elim
  · rename_i l n
    obtain ⟨base, rfl, hsp⟩ := ha
    split at h
    · rename_i hn
      obtain ⟨rfl, h⟩ := h
      refine ⟨_, _, h, rnOK_putS (a := .z) (v := .slice base 0 0) hr hn ⟨base, rfl, hsp⟩, ext_putS hn, fun r2 ν2 M e hM => ?_⟩
      have hg : rget ((l, A.z) :: r) l = some .z := by rw [rget_cons, if_pos rfl]
      have hs : ν2.sv l = .slice base 0 0 := by rw [(e.same l _ hg).2]; simp [Nu.putS]
      exact ⟨hM l _ (e.mono l _ hg), hs.symm, base, 0, hs, ⟨⟨Nat.le_refl _, Nat.zero_le _⟩, hsp, fun _ => rfl⟩⟩
    · exact h.elim
  · rename_i l z x y l' n'
    split at h
    · rename_i m q hs hz
      split at h
      · rename_i hm
        have hm := Nat.eq_of_beq_eq_true hm
        subst hm
        obtain ⟨rfl, rfl, h⟩ := h
        obtain ⟨_, hsv2, _⟩ := hr l _ hs
        obtain ⟨hl', rfl, base, cap, hsv, hok⟩ := ha
        refine ⟨r, νf, h, hr, RExt.refl _ _, fun r2 ν2 M e hM => ?_⟩
        refine ⟨hM l _ (e.mono l _ hs), base, n', cap, base, by rw [(e.same l _ hs).2, hsv2]; exact hsv, Nat.zero_le _, Nat.le_refl _, hok, by rw [hsv]; rfl, fun _ => ?_, hok⟩
        cases base with
        | none => rfl
        | some x =>
          have := hok.2.1 x rfl
          obtain ⟨b, o, sp⟩ := x
          simp only at this
          subst this
          simp [addA]
      · exact h.elim
    · exact h.elim
  · rename_i l z x y l' z' x' y'
    split at h
    · rename_i m q hs hz
      have hz := Nat.eq_of_beq_eq_true hz
      subst hz
      split at h
      · rename_i hm
        have hm := Nat.eq_of_beq_eq_true hm
        subst hm
        obtain ⟨rfl, rfl, h⟩ := h
        obtain ⟨_, hsv2, _⟩ := hr l _ hs
        obtain ⟨hl', base, n, cap, base', hsv, rest⟩ := ha
        refine ⟨r, νf, h, hr, RExt.refl _ _, fun r2 ν2 M e hM => ?_⟩
        exact ⟨hM l _ (e.mono l _ hs), base, n, cap, base', by rw [(e.same l _ hs).2, hsv2]; exact hsv, rest⟩
      · exact h.elim
    · exact h.elim
  · exact ⟨r, νf, h, hr, RExt.refl _ _, fun _ _ _ _ _ => ha⟩
  · exact ⟨r, νf, h, hr, RExt.refl _ _, fun _ _ _ _ _ => ha⟩
  · unfold mtZ at h
    split at h
    · exact ⟨r, νf, h, hr, RExt.refl _ _, fun _ _ _ _ _ => ha⟩
    · exact ⟨r, νf, h, hr, RExt.refl _ _, fun _ _ _ _ _ => ⟨none, ha, nofun⟩⟩
    · exact h.elim
  · rename_i f cs f' ds
    split at h
    · rename_i hf
      have hf := Nat.eq_of_beq_eq_true hf
      subst hf
      obtain ⟨hd, rfl⟩ := ha
      obtain ⟨r1, ν1, h1, hr1, e1, f1⟩ := mtPs_sound hr hd h
      refine ⟨r1, ν1, h1, hr1, e1, fun r2 ν2 M e hM => ?_⟩
      obtain ⟨p1, p2⟩ := f1 r2 ν2 M e hM
      exact ⟨p1, by rw [p2]⟩
    · exact h.elim
  · obtain ⟨rfl, h⟩ := h
    exact ⟨r, νf, h, hr, RExt.refl _ _, fun _ _ _ _ _ => ha⟩
  · exact h.elim
theorem mtAs_sound : ∀ {as bs : List A} {vs : List Value} {r : Rn} {νf : Nu}, rnOK ν N νf r → relAs ν N bs vs → mtAs r as bs K → MtOK ν N r νf K fun ν2 M => relAs ν2 M as vs
  | [], [], [], r, νf, hr, _, h => ⟨r, νf, h, hr, RExt.refl _ _, fun _ _ _ _ _ => trivial⟩
  | a :: as, b :: bs, v :: vs, r, νf, hr, hv, h => by
    obtain ⟨r1, ν1, h1, hr1, e1, f1⟩ := mtA_sound hr hv.1.1 h
    obtain ⟨r2, ν2, h2, hr2, e2, f2⟩ := mtAs_sound hr1 hv.2 h1
    exact ⟨r2, ν2, h2, hr2, e1.trans e2, fun r3 ν3 M e hM => ⟨⟨f1.ext e2 r3 ν3 M e hM, hv.1.2⟩, f2 r3 ν3 M e hM⟩⟩
  | [], _ :: _, _, _, _, _, _, h => h.elim
  | _ :: _, [], _, _, _, _, _, h => h.elim
  | [], [], _ :: _, _, _, _, h, _ => h.elim
  | _ :: _, _ :: _, [], _, _, _, h, _ => h.elim
theorem mtV_sound {a b : V} {v : Value} (hr : rnOK ν N νf r) (hv : relV ν N b v) (h : mtV r a b K) : MtOK ν N r νf K fun ν2 M => relV ν2 M a v := by
  unfold mtV at h
  split at h
  · exact mtA_sound hr hv h
  · obtain ⟨vs, rfl, hv⟩ := hv
    obtain ⟨r1, ν1, h1, hr1, e1, f1⟩ := mtAs_sound hr hv h
    exact ⟨r1, ν1, h1, hr1, e1, fun r2 ν2 M e hM => ⟨vs, rfl, f1 r2 ν2 M e hM⟩⟩
  · exact h.elim
theorem mtVs_sound : ∀ {as bs : List V} {vs : List Value} {r : Rn} {νf : Nu}, rnOK ν N νf r → relVs ν N bs vs → mtVs r as bs K → MtOK ν N r νf K fun ν2 M => relVs ν2 M as vs
  | [], [], [], r, νf, hr, _, h => ⟨r, νf, h, hr, RExt.refl _ _, fun _ _ _ _ _ => trivial⟩
  | a :: as, b :: bs, v :: vs, r, νf, hr, hv, h => by
    obtain ⟨r1, ν1, h1, hr1, e1, f1⟩ := mtV_sound hr hv.1 h
    obtain ⟨r2, ν2, h2, hr2, e2, f2⟩ := mtVs_sound hr1 hv.2 h1
    exact ⟨r2, ν2, h2, hr2, e1.trans e2, fun r3 ν3 M e hM => ⟨f1.ext e2 r3 ν3 M e hM, f2 r3 ν3 M e hM⟩⟩
  | [], _ :: _, _, _, _, _, _, h => h.elim
  | _ :: _, [], _, _, _, _, _, h => h.elim
  | [], [], _ :: _, _, _, _, h, _ => h.elim
  | _ :: _, _ :: _, [], _, _, _, h, _ => h.elim
theorem mtR_sound {a b : R} {v : Value} (hr : rnOK ν N νf r) (hv : relR ν N b v) (h : mtR r a b K) : MtOK ν N r νf K fun ν2 M => relR ν2 M a v := by
  unfold mtR at h
  split at h
  · exact mtV_sound hr hv h
  · obtain ⟨vs, rfl, hv⟩ := hv
    obtain ⟨r1, ν1, h1, hr1, e1, f1⟩ := mtVs_sound hr hv h
    exact ⟨r1, ν1, h1, hr1, e1, fun r2 ν2 M e hM => ⟨vs, rfl, f1 r2 ν2 M e hM⟩⟩
  · exact h.elim
end
end Sx
