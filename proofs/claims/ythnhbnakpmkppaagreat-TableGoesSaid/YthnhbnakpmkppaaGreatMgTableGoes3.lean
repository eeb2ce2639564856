import Derived.Test.YthnhbnakpmkppaaGreatMgTableGoes2
section
set_option linter.all false
namespace Sx
open Go
def rnOK (ν : Nu) (N : Nat) (νf : Nu) (r : Rn) : Prop := ∀ l a, rget r l = some a → match a with
  | .p l' o => o = 0 ∧ l' < N ∧ νf.blk l = ν.blk l'
  | .f l' n => relA ν N (.f l' n) (νf.sv l)
  | .sb l' z x y => relA ν N (.sb l' z x y) (νf.sv l)
  | .ns => νf.sv l = .slice none 0 0
  | .z => relA ν N .z (νf.sv l)
  | _ => False
structure RExt (r : Rn) (νf : Nu) (r' : Rn) (νf' : Nu) : Prop where
  mono : ∀ l a, rget r l = some a → rget r' l = some a
  same : ∀ l a, rget r l = some a → νf'.blk l = νf.blk l ∧ νf'.sv l = νf.sv l
theorem RExt.refl (r : Rn) (νf : Nu) : RExt r νf r νf := ⟨fun _ _ h => h, fun _ _ _ => ⟨rfl, rfl⟩⟩
theorem RExt.trans {r r1 r2 : Rn} {ν ν1 ν2 : Nu} (h : RExt r ν r1 ν1) (k : RExt r1 ν1 r2 ν2) : RExt r ν r2 ν2 :=
  ⟨fun l a hl => k.mono l a (h.mono l a hl), fun l a hl => ⟨(k.same l a (h.mono l a hl)).1.trans (h.same l a hl).1, (k.same l a (h.mono l a hl)).2.trans (h.same l a hl).2⟩⟩
def FA (r : Rn) (νf : Nu) (X : Nu → Nat → Prop) : Prop := ∀ r2 ν2 M, RExt r νf r2 ν2 → (∀ l a, rget r2 l = some a → l < M) → X ν2 M
theorem FA.ext {r r' : Rn} {νf νf' : Nu} {X : Nu → Nat → Prop} (h : FA r νf X) (e : RExt r νf r' νf') : FA r' νf' X := fun r2 ν2 M e2 hM => h r2 ν2 M (e.trans e2) hM
theorem rget_cons (l : Nat) (a : A) (r : Rn) (k : Nat) : rget ((l, a) :: r) k = if l = k then some a else rget r k := by
  show (match Nat.beq l k with | true => some a | false => rget r k) = _
  by_cases h : l = k
  · subst h; simp
  · have : Nat.beq l k = false := beq_no h
    simp [this, h]
def Nu.putB (ν : Nu) (l b : Nat) : Nu := ⟨fun k => if k = l then b else ν.blk k, ν.sv, ν.fp⟩
def Nu.putS (ν : Nu) (l : Nat) (v : Value) : Nu := ⟨ν.blk, fun k => if k = l then v else ν.sv k, ν.fp⟩
section
variable {ν νf : Nu} {N : Nat} {w : World} {H : Hp} {r : Rn} {K : Rn → Prop}
theorem ext_putB {l b : Nat} {a : A} (h : rget r l = none) : RExt r νf ((l, a) :: r) (νf.putB l b) := by
  have hne : ∀ k c, rget r k = some c → k ≠ l := fun k c hk e => by rw [e, h] at hk; cases hk
  exact ⟨fun k c hk => by rw [rget_cons, if_neg (Ne.symm (hne k c hk))]; exact hk, fun k c hk => by simp [Nu.putB, hne k c hk]⟩
theorem ext_putS {l : Nat} {v : Value} {a : A} (h : rget r l = none) : RExt r νf ((l, a) :: r) (νf.putS l v) := by
  have hne : ∀ k c, rget r k = some c → k ≠ l := fun k c hk e => by rw [e, h] at hk; cases hk
  exact ⟨fun k c hk => by rw [rget_cons, if_neg (Ne.symm (hne k c hk))]; exact hk, fun k c hk => by simp [Nu.putS, hne k c hk]⟩
theorem rnOK_putB {l l' : Nat} (hr : rnOK ν N νf r) (h : rget r l = none) (hl : l' < N) : rnOK ν N (νf.putB l (ν.blk l')) ((l, .p l' 0) :: r) := by
  intro k a hk
  rw [rget_cons] at hk
  split at hk
  · rename_i e
    cases hk
    subst e
    exact ⟨rfl, hl, by simp [Nu.putB]⟩
  · rename_i e
    have := hr k a hk
    cases a <;> first | exact this | exact ⟨this.1, this.2.1, by simp [Nu.putB, Ne.symm e, this.2.2]⟩
theorem rnOK_putS {l : Nat} {a : A} {v : Value} (hr : rnOK ν N νf r) (h : rget r l = none) (ha : match a with | .f _ _ => relA ν N a v | .sb _ _ _ _ => relA ν N a v | .ns => v = .slice none 0 0 | .z => relA ν N .z v | _ => False) : rnOK ν N (νf.putS l v) ((l, a) :: r) := by
  intro k b hk
  rw [rget_cons] at hk
  split at hk
  · rename_i e
    cases hk
    subst e
    cases a <;> simp only [Nu.putS, if_pos] <;> first | exact ha | exact ha.elim
  · rename_i e
    have := hr k b hk
    cases b <;> simp only [Nu.putS, if_neg (Ne.symm e)] <;> exact this
abbrev MtOK (ν : Nu) (N : Nat) (r : Rn) (νf : Nu) (K : Rn → Prop) (X : Nu → Nat → Prop) : Prop := ∃ r' νf', K r' ∧ rnOK ν N νf' r' ∧ RExt r νf r' νf' ∧ FA r' νf' X
theorem mtL_sound {x y : L} {Q : Prop} (h : mtL x y Q) : y = x ∧ Q := by
  unfold mtL at h
  split at h
  · split at h
    · rename_i hk
      have := of_decide_eq_true hk
      subst this
      exact ⟨by rw [h.1], h.2⟩
    · exact h.elim
  · exact ⟨by rw [h.1], h.2⟩
  · exact ⟨by rw [h.1], h.2⟩
  · exact h.elim
theorem mtP_sound (hr : rnOK ν N νf r) {l o l' o' : Nat} (hl' : l' < N) (h : mtP r l o l' o' K) : MtOK ν N r νf K fun ν2 M => l < M ∧ ν.blk l' = ν2.blk l ∧ o' = o := by
  unfold mtP at h
  split at h
  · rename_i ho hn
    have ho := Nat.eq_of_beq_eq_true ho
    subst ho
    refine ⟨_, _, h, rnOK_putB hr hn hl', ext_putB hn, fun r2 ν2 M e hM => ?_⟩
    have hg : rget ((l, A.p l' 0) :: r) l = some (.p l' 0) := by rw [rget_cons, if_pos rfl]
    exact ⟨hM l _ (e.mono l _ hg), by rw [(e.same l _ hg).1]; simp [Nu.putB], rfl⟩
  · rename_i m q ho hs
    have ho := Nat.eq_of_beq_eq_true ho
    subst ho
    split at h
    · rename_i hm
      have hm := Nat.eq_of_beq_eq_true hm
      subst hm
      refine ⟨r, νf, h, hr, RExt.refl _ _, fun r2 ν2 M e hM => ?_⟩
      exact ⟨hM l _ (e.mono l _ hs), by rw [(e.same l _ hs).1]; exact (hr l _ hs).2.2.symm, rfl⟩
    · exact h.elim
  · exact h.elim
theorem mtPs_sound : ∀ {cs ds : List (Nat × Nat)} {r : Rn} {νf : Nu}, rnOK ν N νf r → (∀ q ∈ ds, q.1 < N) → mtPs r cs ds K → MtOK ν N r νf K fun ν2 M => (∀ q ∈ cs, q.1 < M) ∧ (ds.map fun q => Value.pointer (some ⟨ν.blk q.1, q.2, none⟩)) = cs.map fun q => Value.pointer (some ⟨ν2.blk q.1, q.2, none⟩)
  | [], [], r, νf, hr, _, h => ⟨r, νf, h, hr, RExt.refl _ _, fun _ _ _ _ _ => ⟨by simp, rfl⟩⟩
  | c :: cs, d :: ds, r, νf, hr, hd, h => by
    obtain ⟨r1, ν1, h1, hr1, e1, f1⟩ := mtP_sound hr (hd d (by simp)) h
    obtain ⟨r2, ν2, h2, hr2, e2, f2⟩ := mtPs_sound hr1 (fun q hq => hd q (by simp [hq])) h1
    refine ⟨r2, ν2, h2, hr2, e1.trans e2, fun r3 ν3 M e hM => ?_⟩
    obtain ⟨p1, p2, p3⟩ := f1.ext e2 r3 ν3 M e hM
    obtain ⟨q1, q2⟩ := f2 r3 ν3 M e hM
    refine ⟨fun q hq => ?_, ?_⟩
    · rcases List.mem_cons.1 hq with rfl | hq
      · exact p1
      · exact q1 q hq
    · rw [List.map_cons, List.map_cons, q2, p2, p3]
  | [], _ :: _, _, _, _, _, h => h.elim
  | _ :: _, [], _, _, _, _, h => h.elim
theorem mtA_sound {a a' : A} {v : Value} (hr : rnOK ν N νf r) (ha : relA ν N a' v) (h : mtA r a a' K) : MtOK ν N r νf K fun ν2 M => relA ν2 M a v := by
  unfold mtA at h
  split at h
  · exact ⟨r, νf, h, hr, RExt.refl _ _, fun _ _ _ _ _ => trivial⟩
  · obtain ⟨rfl, h2⟩ := mtL_sound h
    exact ⟨r, νf, h2, hr, RExt.refl _ _, fun _ _ _ _ _ => ha⟩
  · rename_i l o l' o'
    obtain ⟨hl', rfl⟩ := ha
    obtain ⟨r1, ν1, h1, hr1, e1, f1⟩ := mtP_sound hr hl' h
    refine ⟨r1, ν1, h1, hr1, e1, fun r2 ν2 M e hM => ?_⟩
    obtain ⟨p1, p2, p3⟩ := f1 r2 ν2 M e hM
    exact ⟨p1, by rw [p2, p3]⟩
  · rename_i l n l' n'
    split at h
    · rename_i hn
      obtain ⟨rfl, h⟩ := h
      obtain ⟨hl', rfl, base, cap, hsv, hok⟩ := ha
      refine ⟨_, _, h, rnOK_putS (v := ν.sv l') hr hn ⟨hl', rfl, base, cap, hsv, hok⟩, ext_putS hn, fun r2 ν2 M e hM => ?_⟩
      have hg : rget ((l, A.f l' n') :: r) l = some (.f l' n') := by rw [rget_cons, if_pos rfl]
      have hs : ν2.sv l = ν.sv l' := by rw [(e.same l _ hg).2]; simp [Nu.putS]
      exact ⟨hM l _ (e.mono l _ hg), hs.symm, base, cap, by rw [hs]; exact hsv, hok⟩
    · rename_i m q hs
      split at h
      · rename_i hm
        have hm := Nat.eq_of_beq_eq_true hm
        subst hm
        obtain ⟨rfl, h⟩ := h
        obtain ⟨hl', rfl, base, cap, hsv, hok⟩ := ha
        obtain ⟨_, hsv2, _⟩ := hr l _ hs
        refine ⟨r, νf, h, hr, RExt.refl _ _, fun r2 ν2 M e hM => ?_⟩
        have hs2 : ν2.sv l = ν.sv m := by rw [(e.same l _ hs).2, hsv2]
        exact ⟨hM l _ (e.mono l _ hs), hs2.symm, base, cap, by rw [hs2]; exact hsv, hok⟩
      · exact h.elim
    · exact h.elim
  · rename_i l n l' z x y
    split at h
    · rename_i hn
      obtain ⟨rfl, h⟩ := h
      have ha' := ha
      obtain ⟨hl', base, n, cap, base', hsv, hab, hbn, hok, rfl, hba, hok'⟩ := ha
      refine ⟨_, _, h, rnOK_putS (v := .slice base' (y - x) (cap - x)) hr hn ha', ext_putS hn, fun r2 ν2 M e hM => ?_⟩
      have hg : rget ((l, A.sb l' z x y) :: r) l = some (.sb l' z x y) := by rw [rget_cons, if_pos rfl]
      have hs : ν2.sv l = .slice base' (y - x) (cap - x) := by rw [(e.same l _ hg).2]; simp [Nu.putS]
      exact ⟨hM l _ (e.mono l _ hg), hs.symm, base', cap - x, hs, hok'⟩
    · exact h.elim
  · rename_i l n
    cases ha
    split at h
    · rename_i hn
      obtain ⟨rfl, h⟩ := h
      refine ⟨_, _, h, rnOK_putS (a := .ns) (v := .slice none 0 0) hr hn rfl, ext_putS hn, fun r2 ν2 M e hM => ?_⟩
      have hg : rget ((l, A.ns) :: r) l = some .ns := by rw [rget_cons, if_pos rfl]
      have hs : ν2.sv l = .slice none 0 0 := by rw [(e.same l _ hg).2]; simp [Nu.putS]
      exact ⟨hM l _ (e.mono l _ hg), hs.symm, none, 0, hs, ⟨⟨Nat.le_refl _, Nat.zero_le _⟩, nofun, fun _ => rfl⟩⟩
    · rename_i hs
      obtain ⟨rfl, h⟩ := h
      refine ⟨r, νf, h, hr, RExt.refl _ _, fun r2 ν2 M e hM => ?_⟩
      have hs2 : ν2.sv l = .slice none 0 0 := by rw [(e.same l _ hs).2]; exact hr l _ hs
      exact ⟨hM l _ (e.mono l _ hs), hs2.symm, none, 0, hs2, ⟨⟨Nat.le_refl _, Nat.zero_le _⟩, nofun, fun _ => rfl⟩⟩
    · exact h.elim
  · rename_i l n
    obtain ⟨base, rfl, hsp⟩ := ha
    split at h
    · rename_i hn
      obtain ⟨rfl, h⟩ := h
      refine ⟨_, _, h, rnOK_putS (a := .z) (v := .slice base 0 0) hr hn ⟨base, rfl, hsp⟩, ext_putS hn, fun r2 ν2 M e hM => ?_⟩
      have hg : rget ((l, A.z) :: r) l = some .z := by rw [rget_cons, if_pos rfl]
      have hs : ν2.sv l = .slice base 0 0 := by rw [(e.same l _ hg).2]; simp [Nu.putS]
      exact ⟨hM l _ (e.mono l _ hg), hs.symm, base, 0, hs, ⟨⟨Nat.le_refl _, Nat.zero_le _⟩, hsp, fun _ => rfl⟩⟩
    · exact h.elim
  · rename_i l z x y l' n'
    split at h
    · rename_i m q hs hz
      split at h
      · rename_i hm
        have hm := Nat.eq_of_beq_eq_true hm
        subst hm
        obtain ⟨rfl, rfl, h⟩ := h
        obtain ⟨_, hsv2, _⟩ := hr l _ hs
        obtain ⟨hl', rfl, base, cap, hsv, hok⟩ := ha
        refine ⟨r, νf, h, hr, RExt.refl _ _, fun r2 ν2 M e hM => ?_⟩
        refine ⟨hM l _ (e.mono l _ hs), base, n', cap, base, by rw [(e.same l _ hs).2, hsv2]; exact hsv, Nat.zero_le _, Nat.le_refl _, hok, by rw [hsv]; rfl, fun _ => ?_, hok⟩
        cases base with
        | none => rfl
        | some x =>
          have := hok.2.1 x rfl
          obtain ⟨b, o, sp⟩ := x
          simp only at this
          subst this
          simp [addA]
      · exact h.elim
    · exact h.elim
  · rename_i l z x y l' z' x' y'
    split at h
    · rename_i m q hs hz
      have hz := Nat.eq_of_beq_eq_true hz
      subst hz
      split at h
      · rename_i hm
        have hm := Nat.eq_of_beq_eq_true hm
        subst hm
        obtain ⟨rfl, rfl, h⟩ := h
        obtain ⟨_, hsv2, _⟩ := hr l _ hs
        obtain ⟨hl', base, n, cap, base', hsv, rest⟩ := ha
        refine ⟨r, νf, h, hr, RExt.refl _ _, fun r2 ν2 M e hM => ?_⟩
        exact ⟨hM l _ (e.mono l _ hs), base, n, cap, base', by rw [(e.same l _ hs).2, hsv2]; exact hsv, rest⟩
      · exact h.elim
    · exact h.elim
  · exact ⟨r, νf, h, hr, RExt.refl _ _, fun _ _ _ _ _ => ha⟩
  · exact ⟨r, νf, h, hr, RExt.refl _ _, fun _ _ _ _ _ => ha⟩
  · unfold mtZ at h
    split at h
    · exact ⟨r, νf, h, hr, RExt.refl _ _, fun _ _ _ _ _ => ha⟩
    · exact ⟨r, νf, h, hr, RExt.refl _ _, fun _ _ _ _ _ => ⟨none, ha, nofun⟩⟩
    · exact h.elim
  · rename_i f cs f' ds
    split at h
    · rename_i hf
      have hf := Nat.eq_of_beq_eq_true hf
      subst hf
      obtain ⟨hd, rfl⟩ := ha
      obtain ⟨r1, ν1, h1, hr1, e1, f1⟩ := mtPs_sound hr hd h
      refine ⟨r1, ν1, h1, hr1, e1, fun r2 ν2 M e hM => ?_⟩
      obtain ⟨p1, p2⟩ := f1 r2 ν2 M e hM
      exact ⟨p1, by rw [p2]⟩
    · exact h.elim
  · obtain ⟨rfl, h⟩ := h
    exact ⟨r, νf, h, hr, RExt.refl _ _, fun _ _ _ _ _ => ha⟩
  · exact h.elim
theorem mtAs_sound : ∀ {asq bs : List A} {vs : List Value} {r : Rn} {νf : Nu}, rnOK ν N νf r → relAs ν N bs vs → mtAs r asq bs K → MtOK ν N r νf K fun ν2 M => relAs ν2 M asq vs
  | [], [], [], r, νf, hr, _, h => ⟨r, νf, h, hr, RExt.refl _ _, fun _ _ _ _ _ => trivial⟩
  | a :: asq, b :: bs, v :: vs, r, νf, hr, hv, h => by
    obtain ⟨r1, ν1, h1, hr1, e1, f1⟩ := mtA_sound hr hv.1.1 h
    obtain ⟨r2, ν2, h2, hr2, e2, f2⟩ := mtAs_sound hr1 hv.2 h1
    exact ⟨r2, ν2, h2, hr2, e1.trans e2, fun r3 ν3 M e hM => ⟨⟨f1.ext e2 r3 ν3 M e hM, hv.1.2⟩, f2 r3 ν3 M e hM⟩⟩
  | [], _ :: _, _, _, _, _, _, h => h.elim
  | _ :: _, [], _, _, _, _, _, h => h.elim
  | [], [], _ :: _, _, _, _, h, _ => h.elim
  | _ :: _, _ :: _, [], _, _, _, h, _ => h.elim
theorem mtV_sound {a b : V} {v : Value} (hr : rnOK ν N νf r) (hv : relV ν N b v) (h : mtV r a b K) : MtOK ν N r νf K fun ν2 M => relV ν2 M a v := by
  unfold mtV at h
  split at h
  · exact mtA_sound hr hv h
  · obtain ⟨vs, rfl, hv⟩ := hv
    obtain ⟨r1, ν1, h1, hr1, e1, f1⟩ := mtAs_sound hr hv h
    exact ⟨r1, ν1, h1, hr1, e1, fun r2 ν2 M e hM => ⟨vs, rfl, f1 r2 ν2 M e hM⟩⟩
  · exact h.elim
theorem mtVs_sound : ∀ {asq bs : List V} {vs : List Value} {r : Rn} {νf : Nu}, rnOK ν N νf r → relVs ν N bs vs → mtVs r asq bs K → MtOK ν N r νf K fun ν2 M => relVs ν2 M asq vs
  | [], [], [], r, νf, hr, _, h => ⟨r, νf, h, hr, RExt.refl _ _, fun _ _ _ _ _ => trivial⟩
  | a :: asq, b :: bs, v :: vs, r, νf, hr, hv, h => by
    obtain ⟨r1, ν1, h1, hr1, e1, f1⟩ := mtV_sound hr hv.1 h
    obtain ⟨r2, ν2, h2, hr2, e2, f2⟩ := mtVs_sound hr1 hv.2 h1
    exact ⟨r2, ν2, h2, hr2, e1.trans e2, fun r3 ν3 M e hM => ⟨f1.ext e2 r3 ν3 M e hM, f2 r3 ν3 M e hM⟩⟩
  | [], _ :: _, _, _, _, _, _, h => h.elim
  | _ :: _, [], _, _, _, _, _, h => h.elim
  | [], [], _ :: _, _, _, _, h, _ => h.elim
  | _ :: _, _ :: _, [], _, _, _, h, _ => h.elim
theorem mtR_sound {a b : R} {v : Value} (hr : rnOK ν N νf r) (hv : relR ν N b v) (h : mtR r a b K) : MtOK ν N r νf K fun ν2 M => relR ν2 M a v := by
  unfold mtR at h
  split at h
  · exact mtV_sound hr hv h
  · obtain ⟨vs, rfl, hv⟩ := hv
    obtain ⟨r1, ν1, h1, hr1, e1, f1⟩ := mtVs_sound hr hv h
    exact ⟨r1, ν1, h1, hr1, e1, fun r2 ν2 M e hM => ⟨vs, rfl, f1 r2 ν2 M e hM⟩⟩
  · exact h.elim
end
end Sx

set_option linter.all false
namespace Sx
open Go
section
variable {ν νf : Nu} {N : Nat} {w : World} {H : Hp} {r : Rn} {K : Rn → Prop}
def Tied (ν : Nu) (w : World) (H : Hp) (r : Rn) (νf : Nu) (l : Nat) (o : Ob) : Prop := match o with
  | .cells asq => ∃ l' bs vs T, rget r l = some (.p l' 0) ∧ hget H l' = some (.cells bs) ∧ w.heap[ν.blk l']? = some (.cells vs T (0, 0)) ∧ FA r νf fun ν2 M => relAs ν2 M asq vs.toList
  | .abs a => ∃ l', rget r l = some (.p l' 0) ∧ hget H l' = some (.abs a)
  | .row own ks xs => (∃ l' n own', rget r l = some (.f l' n) ∧ hget H l' = some (.row own' ks xs) ∧ (own = true → own' = true)) ∨
      (own = false ∧ ∃ l' z a b own' xs', rget r l = some (.sb l' z a b) ∧ hget H l' = some (.row own' ks xs') ∧ z = ks.length ∧ (xs'.take b).drop a = xs) ∨
      (rget r l = some .ns ∧ xs = [] ∧ 0 < ks.length) ∨ (own = false ∧ rget r l = some .z ∧ xs = [] ∧ 0 < ks.length) ∨
      (own = true ∧ ∃ l' z b xs', rget r l = some (.sb l' z 0 b) ∧ hget H l' = some (.row true ks xs') ∧ z = ks.length ∧ xs'.take b = xs)
  | .gone => True
  | .crow z n asq => ∃ l' n' bs e vs, rget r l = some (.f l' n') ∧ hget H l' = some (.crow z n bs) ∧ 0 < z ∧ w.ownsRow 0 e z (ν.sv l') n vs ∧ FA r νf fun ν2 M => relAs ν2 M asq vs
theorem Tied.ext {l : Nat} {o : Ob} {r' : Rn} {νf' : Nu} (h : Tied ν w H r νf l o) (e : RExt r νf r' νf') : Tied ν w H r' νf' l o := by
  cases o with
  | cells asq => obtain ⟨l', bs, vs, T, h1, h2, h3, h4⟩ := h; exact ⟨l', bs, vs, T, e.mono _ _ h1, h2, h3, h4.ext e⟩
  | abs a => obtain ⟨l', h1, h2⟩ := h; exact ⟨l', e.mono _ _ h1, h2⟩
  | row own ks xs =>
    rcases h with ⟨l', n, own', h1, h2⟩ | ⟨h0, l', z, a, b, own', xs', h1, h2⟩ | ⟨h1, h2⟩ | ⟨h0, h1, h2⟩ | ⟨h0, l', z, b, xs', h1, h2⟩
    · exact .inl ⟨l', n, own', e.mono _ _ h1, h2⟩
    · exact .inr (.inl ⟨h0, l', z, a, b, own', xs', e.mono _ _ h1, h2⟩)
    · exact .inr (.inr (.inl ⟨e.mono _ _ h1, h2⟩))
    · exact .inr (.inr (.inr (.inl ⟨h0, e.mono _ _ h1, h2⟩)))
    · exact .inr (.inr (.inr (.inr ⟨h0, l', z, b, xs', e.mono _ _ h1, h2⟩)))
  | gone => trivial
  | crow z n asq => obtain ⟨l', n', bs, e0, vs, h1, h2, h3, h4, h5⟩ := h; exact ⟨l', n', bs, e0, vs, e.mono _ _ h1, h2, h3, h4, h5.ext e⟩
theorem mtHp_sound (hH : hpH ν N w H) : ∀ {fs : List (Nat × Ob)} {r : Rn} {νf : Nu}, rnOK ν N νf r → mtHp r H fs K → ∃ r' νf', K r' ∧ rnOK ν N νf' r' ∧ RExt r νf r' νf' ∧ ∀ q ∈ fs, Tied ν w H r' νf' q.1 q.2
  | [], r, νf, hr, h => ⟨r, νf, h, hr, RExt.refl _ _, by simp⟩
  | (l, o) :: fs, r, νf, hr, h => by
    have simple : ∀ {K' : Prop}, (K' → mtHp r H fs K) → K' → Tied ν w H r νf l o → ∃ r' νf', K r' ∧ rnOK ν N νf' r' ∧ RExt r νf r' νf' ∧ ∀ q ∈ (l, o) :: fs, Tied ν w H r' νf' q.1 q.2 := by
      intro K' hk k ht
      obtain ⟨r2, ν2, h2, hr2, e2, t2⟩ := mtHp_sound hH hr (hk k)
      exact ⟨r2, ν2, h2, hr2, e2, fun q hq => by
        rcases List.mem_cons.1 hq with rfl | hq
        · exact ht.ext e2
        · exact t2 q hq⟩
    unfold mtHp at h
    split at h
    · rename_i asq l' o' hg
      have h0 := (hr l _ hg).1
      subst h0
      split at h
      · rename_i bs hb
        obtain ⟨_, vs, T, hv1, hv2⟩ := (hH.ob _ _ hb).2
        obtain ⟨r1, ν1, h1, hr1, e1, f1⟩ := mtAs_sound hr hv2 h
        obtain ⟨r2, ν2, h2, hr2, e2, t2⟩ := mtHp_sound hH hr1 h1
        refine ⟨r2, ν2, h2, hr2, e1.trans e2, fun q hq => ?_⟩
        rcases List.mem_cons.1 hq with rfl | hq
        · exact ⟨l', bs, vs, T, (e1.trans e2).mono _ _ hg, hb, hv1, f1.ext e2⟩
        · exact t2 q hq
      · exact h.elim
    · rename_i a l' o' hg
      have h0 := (hr l _ hg).1
      subst h0
      split at h
      · rename_i b hb
        obtain ⟨rfl, h⟩ := h
        exact simple id h ⟨l', hg, hb⟩
      · exact h.elim
    · rename_i own ks xs l' n hg
      split at h
      · rename_i own' ks' xs' hb
        split at h
        · rename_i ys ho hc
          obtain ⟨rfl, h⟩ := h
          obtain ⟨e, e2⟩ := castRow_some hc
          subst e
          subst e2
          exact simple id h (.inl ⟨l', n, own', hg, hb, fun e => by subst e; simpa using ho⟩)
        · exact h.elim
      · exact h.elim
    · rename_i own ks xs l' z a b hg
      cases own with
      | true =>
        simp only at h
        split at h
        · rename_i ks' xs' hb
          split at h
          · rename_i ys hz hc
            simp only [Bool.and_eq_true] at hz
            have ha := Nat.eq_of_beq_eq_true hz.2
            subst ha
            obtain ⟨rfl, h⟩ := h
            obtain ⟨e, e2⟩ := castRow_some hc
            subst e
            subst e2
            exact simple id h (.inr (.inr (.inr (.inr ⟨rfl, l', z, b, xs', hg, hb, Nat.eq_of_beq_eq_true hz.1, rfl⟩))))
          · exact h.elim
        · exact h.elim
      | false =>
        simp only at h
        split at h
        · rename_i own' ks' xs' hb
          split at h
          · rename_i ys hz hc
            obtain ⟨rfl, h⟩ := h
            obtain ⟨e, e2⟩ := castRow_some hc
            subst e
            subst e2
            exact simple id h (.inr (.inl ⟨rfl, l', z, a, b, own', xs', hg, hb, Nat.eq_of_beq_eq_true hz, rfl⟩))
          · exact h.elim
        · exact h.elim
    · rename_i ks xs hg
      split at h
      · exact h.elim
      · rename_i n hn
        obtain ⟨rfl, h⟩ := h
        exact simple id h (.inr (.inr (.inr (.inl ⟨rfl, hg, rfl, by omega⟩))))
    · rename_i own ks xs hg
      split at h
      · exact h.elim
      · rename_i n hn
        obtain ⟨rfl, h⟩ := h
        exact simple id h (.inr (.inr (.inl ⟨hg, rfl, by omega⟩)))
    · rename_i z n asq l' n2 hg
      split at h
      · rename_i z' n' bs hb
        split at h
        · rename_i hzn
          simp only [Bool.and_eq_true] at hzn
          have e1 := Nat.eq_of_beq_eq_true hzn.1
          have e2 := Nat.eq_of_beq_eq_true hzn.2
          subst e1 e2
          obtain ⟨h0, _, e, vs, hv1, hv2⟩ := (hH.ob _ _ hb).2
          obtain ⟨r1, ν1, h1, hr1, e1, f1⟩ := mtAs_sound hr hv2 h
          obtain ⟨r2, ν2, h2, hr2, e2, t2⟩ := mtHp_sound hH hr1 h1
          refine ⟨r2, ν2, h2, hr2, e1.trans e2, fun q hq => ?_⟩
          rcases List.mem_cons.1 hq with rfl | hq
          · exact ⟨l', n2, bs, e, vs, (e1.trans e2).mono _ _ hg, hb, h0, hv1, f1.ext e2⟩
          · exact t2 q hq
        · exact h.elim
      · exact h.elim
    · exact simple id h trivial
    · exact h.elim
theorem hget_heap0 (hs : List Ob) (l : Nat) : hget (heap0 hs) l = hs[l]? := by
  have : ∀ (hs : List Ob) (n l : Nat), hget ((enum n hs).map fun q => (q.1, 0, q.2)) l = if n ≤ l then hs[l - n]? else none := by
    intro hs
    induction hs with
    | nil => intro n l; simp [enum, hget]
    | cons o os ih =>
      intro n l
      simp only [enum, List.map_cons, hget_cons, ih]
      by_cases h1 : n = l
      · subst h1; simp
      · by_cases h2 : n ≤ l
        · have h3 : n + 1 ≤ l := by omega
          obtain ⟨k, hk⟩ : ∃ k, l - n = k + 1 := ⟨l - n - 1, by omega⟩
          simp [h1, h2, h3, hk, show l - (n + 1) = k by omega]
        · have h3 : ¬ n + 1 ≤ l := by omega
          simp [h1, h2, h3]
  exact (this hs 0 l).trans (by simp)
theorem hst_heap0 (hs : List Ob) (l : Nat) : hst (heap0 hs) l = 0 := by
  have : ∀ (hs : List Ob) (n l : Nat), hst ((enum n hs).map fun q => (q.1, 0, q.2)) l = 0 := by
    intro hs
    induction hs with
    | nil => intro n l; rfl
    | cons o os ih => intro n l; simp only [enum, List.map_cons, hst_cons, ih]; split <;> rfl
  exact this hs 0 l
theorem enum_mem {α : Type} {a : α} : ∀ {xs : List α} {n l : Nat}, (l, a) ∈ enum n xs ↔ n ≤ l ∧ xs[l - n]? = some a
  | [], n, l => by simp [enum]
  | x :: xs, n, l => by
    simp only [enum, List.mem_cons, enum_mem, Prod.mk.injEq]
    constructor
    · rintro (⟨rfl, rfl⟩ | ⟨h1, h2⟩)
      · simp
      · obtain ⟨k, hk⟩ : ∃ k, l - n = k + 1 := ⟨l - n - 1, by omega⟩
        exact ⟨by omega, by rw [hk, List.getElem?_cons_succ, show k = l - (n + 1) by omega]; exact h2⟩
    · rintro ⟨h1, h2⟩
      by_cases h : n = l
      · subst h
        simp at h2
        exact .inl ⟨rfl, h2.symm⟩
      · obtain ⟨k, hk⟩ : ∃ k, l - n = k + 1 := ⟨l - n - 1, by omega⟩
        rw [hk, List.getElem?_cons_succ] at h2
        exact .inr ⟨by omega, by rw [show l - (n + 1) = k by omega]; exact h2⟩
def fpF (ν νf : Nu) (r : Rn) (l b : Nat) : Ob → Prop
  | .cells _ => b = νf.blk l
  | .row true _ _ => (νf.sv l).ownBlock = some b
  | .row false _ xs => (νf.sv l).ownBlock = some b ∧ xs ≠ []
  | .abs _ => ∃ l', rget r l = some (.p l' 0) ∧ ν.fp l' b
  | .gone => False
  | .crow _ _ _ => (νf.sv l).ownBlock = some b
def closeF (ν νf : Nu) (r : Rn) (hs : List Ob) : Nu := ⟨νf.blk, νf.sv, fun l b => match hs[l]? with
  | some o => fpF ν νf r l b o
  | none => False⟩
theorem tied_fp (hH : hpH ν N w H) (hr : rnOK ν N νf r) {l : Nat} {o : Ob} (h : Tied ν w H r νf l o) {b : Nat} (hb : fpF ν νf r l b o) : ∃ m om, (rget r l).bind tgt = some m ∧ hget H m = some om ∧ fpO ν m om b ∧ (ownOb o = true → ownOb om = true) := by
  cases o with
  | cells asq =>
    obtain ⟨l', bs, vs, T, h1, h2, h3, h4⟩ := h
    obtain ⟨_, _, h5⟩ := hr l _ h1
    refine ⟨l', _, by rw [h1]; rfl, h2, ?_, fun _ => rfl⟩
    exact ((hH.ob _ _ h2).2.1 b).2 (by rw [← h5]; exact hb)
  | abs a =>
    obtain ⟨l', h1, h2⟩ := h
    obtain ⟨l2, h3, h4⟩ := hb
    rw [h1] at h3
    cases h3
    exact ⟨l', _, by rw [h1]; rfl, h2, h4, fun _ => rfl⟩
  | row own ks xs =>
    rcases h with ⟨l', n, own', h1, h2, h3⟩ | ⟨rfl, l', z, x, y, own', xs', h1, h2, h3, h4⟩ | ⟨h1, h2, h3⟩ | ⟨rfl, h1, h2, h3⟩ | ⟨rfl, l', z, y, xs', h1, h2, h3, h4⟩
    · obtain ⟨_, hsv, _⟩ := hr l _ h1
      refine ⟨l', _, by rw [h1]; rfl, h2, ?_, fun e => h3 e⟩
      have ho := (hH.ob _ _ h2).2
      cases own' with
      | true =>
        refine (ho.2.2.1 b).2 ?_
        rw [← hsv]
        cases own with
        | true => exact hb
        | false => exact hb.1
      | false =>
        cases own with
        | true => exact absurd (h3 rfl) (by simp)
        | false => exact (ho.2.2.1 b).2 ⟨by rw [← hsv]; exact hb.1, hb.2⟩
    · obtain ⟨hb1, hb2⟩ := hb
      obtain ⟨_, base, m, cap, base', hsv, hab, hbn, hok, hv, hba, hok'⟩ := hr l _ h1
      refine ⟨l', _, by rw [h1]; rfl, h2, ?_, nofun⟩
      obtain ⟨_, _, base2, cap2, hsv2, _⟩ := row_cells (hH.ob _ _ h2).2
      rw [hsv] at hsv2
      obtain ⟨_, hm, _⟩ := slice_inj hsv2
      subst hm
      have hlt : x < y := by
        rcases Nat.lt_or_ge x y with h | h
        · exact h
        · exact absurd (by rw [← h4]; exact List.eq_nil_of_length_eq_zero (by rw [List.length_drop, List.length_take]; omega)) hb2
      have hc := hok.1.1
      rw [hv, hba (by omega)] at hb1
      have hob : (ν.sv l').ownBlock = some b := by
        rw [hsv]
        cases base with
        | none => simp [addA, Value.ownBlock] at hb1
        | some q => simpa [addA, Value.ownBlock] using hb1
      have hne : xs' ≠ [] := by rintro rfl; simp at hbn; omega
      have ho := (hH.ob _ _ h2).2
      cases own' with
      | true => exact (ho.2.2.1 b).2 hob
      | false => exact (ho.2.2.1 b).2 ⟨hob, hne⟩
    · have h5 := hr l _ h1
      cases own with
      | true => simp only [fpF] at hb; rw [h5] at hb; cases hb
      | false => simp only [fpF] at hb; rw [h5] at hb; exact absurd hb.1 (by simp [Value.ownBlock])
    · exact absurd h2 hb.2
    · have hrel := hr l _ h1
      have ho := (hH.ob _ _ h2).2
      obtain ⟨_, _, hfp, e0, hown⟩ := ho
      subst h3
      obtain ⟨_, _, h5⟩ := own_cut hown hrel
      refine ⟨l', _, by rw [h1]; rfl, h2, ?_, fun _ => rfl⟩
      exact (hfp b).2 (by rw [← h5]; exact hb)
  | gone => exact hb.elim
  | crow z n asq =>
    obtain ⟨l', n', bs, e, vs, h1, h2, h3, h4, h5⟩ := h
    obtain ⟨_, hsv, _⟩ := hr l _ h1
    refine ⟨l', _, by rw [h1]; rfl, h2, ?_, fun _ => rfl⟩
    exact ((hH.ob _ _ h2).2.2.1 b).2 (by rw [← hsv]; exact hb)
theorem goneB_is {o : Ob} (h : goneB o = true) : o = .gone := by cases o <;> first | rfl | cases h
theorem apartR_ne {r : Rn} : ∀ {fs : List (Nat × Ob)}, apartR r fs = true → ∀ q q', q ∈ fs → q' ∈ fs → q.1 ≠ q'.1 → ∀ t, (rget r q.1).bind tgt = some t → (rget r q'.1).bind tgt = some t → q.2 = .gone ∨ q'.2 = .gone ∨ (ownOb q.2 = false ∧ ownOb q'.2 = false)
  | [], _, _, _, h, _, _, _, _, _ => by simp at h
  | (l, o) :: fs, h, q, q', hq, hq', hne, t, ht, ht' => by
    simp only [apartR, Bool.and_eq_true] at h
    have key : ∀ p : Nat × Ob, p ∈ fs → (rget r l).bind tgt = some t → (rget r p.1).bind tgt = some t → o = .gone ∨ p.2 = .gone ∨ (ownOb o = false ∧ ownOb p.2 = false) := by
      intro p hp h1 h2
      have h3 := h.1
      rw [h1] at h3
      have h4 := (List.all_eq_true.1 h3) p hp
      rw [h2] at h4
      have hb : Nat.beq t t = true := by simp
      simp only [hb, Bool.not_true, Bool.false_or, Bool.or_eq_true, Bool.and_eq_true, Bool.not_eq_true'] at h4
      rcases h4 with h4 | h4 | h4
      · exact .inl (goneB_is h4)
      · exact .inr (.inl (goneB_is h4))
      · exact .inr (.inr h4)
    rcases List.mem_cons.1 hq with rfl | hq
    · rcases List.mem_cons.1 hq' with rfl | hq'
      · exact absurd rfl hne
      · exact key q' hq' ht ht'
    · rcases List.mem_cons.1 hq' with rfl | hq'
      · rcases key q hq ht' ht with h | h | h
        · exact .inr (.inl h)
        · exact .inl h
        · exact .inr (.inr h.symm)
      · exact apartR_ne h.2 q q' hq hq' hne t ht ht'
theorem ext_closeF (hs : List Ob) : RExt r νf r (closeF ν νf r hs) := ⟨fun _ _ h => h, fun _ _ _ => ⟨rfl, rfl⟩⟩
theorem closeF_fp {hs : List Ob} {l : Nat} {o : Ob} (h : hs[l]? = some o) (b : Nat) : (closeF ν νf r hs).fp l b = fpF ν νf r l b o := by simp [closeF, h]
theorem close_ob (hH : hpH ν N w H) (hr : rnOK ν N νf r) {ν' : Nu} {M l : Nat} {o : Ob} (hti : Tied ν w H r νf l o) (ex : RExt r νf r ν') (hM : ∀ l a, rget r l = some a → l < M) (hfp : ∀ b, ν'.fp l b = fpF ν νf r l b o) : obH ν' M w l o := by
  cases o with
  | cells asq =>
    obtain ⟨l', bs, vs, T, h1, h2, h3, h4⟩ := hti
    obtain ⟨_, _, h5⟩ := hr l _ h1
    have hb := (ex.same l _ h1).1
    refine ⟨fun b => by rw [hfp, hb]; rfl, vs, T, ?_, h4 r _ _ ex hM⟩
    rw [hb, h5]
    exact h3
  | abs a =>
    obtain ⟨l', h1, h2⟩ := hti
    obtain ⟨_, _, h5⟩ := hr l _ h1
    have hx := (hH.ob _ _ h2).2
    have hb := (ex.same l _ h1).1
    have hfe : ν'.fp l = ν.fp l' := by
      funext b
      rw [hfp]
      apply propext
      constructor
      · rintro ⟨l2, h3, h4⟩
        rw [h1] at h3
        cases h3
        exact h4
      · exact fun h => ⟨l', h1, h⟩
    refine ⟨fun b hb' => hx.1 b (by rw [← hfe]; exact hb'), fun w' hw' => ?_⟩
    rw [hfe, hb, h5]
    exact hx.2 w' fun b hb' => hw' b (by rw [hfe]; exact hb')
  | row own ks xs =>
    rcases hti with ⟨l', n, own', h1, h2, h3⟩ | ⟨rfl, l', z, x, y, own', xs', h1, h2, h3, h4⟩ | ⟨h1, h2, h3⟩ | ⟨rfl, h1, h2, h3⟩ | ⟨rfl, l', z, y, xs', h1, h2, h3, h4⟩
    · obtain ⟨_, hsv, _⟩ := hr l _ h1
      have hs := (ex.same l _ h1).2
      have hx := (hH.ob _ _ h2).2
      cases own with
      | true =>
        have h3 := h3 rfl
        subst h3
        obtain ⟨p1, p2, p3, e, p4⟩ := hx
        exact ⟨p1, p2, fun b => by rw [hfp, hs]; rfl, e, by rw [hs, hsv]; exact p4⟩
      | false =>
        obtain ⟨p1, p2, base, cap, p3, p4, p5⟩ := row_cells hx
        exact ⟨p1, p2, fun b => by rw [hfp, hs]; rfl, base, cap, by rw [hs, hsv]; exact p3, p4, p5⟩
    · have hrel := hr l _ h1
      have hs := (ex.same l _ h1).2
      subst h3 h4
      obtain ⟨p1, p2, base, cap, p3, p4, p5⟩ := content_sound (own := own') (ks := ks) (xs := (xs'.take y).drop x) hH hrel (by simp [content, h2])
      exact ⟨p1, p2, fun b => by rw [hfp, hs]; rfl, base, cap, by rw [hs]; exact p3, p4, p5⟩
    · have h5 : νf.sv l = .slice none 0 0 := hr l _ h1
      have hs := (ex.same l _ h1).2
      subst h2
      cases own with
      | true => exact ⟨h3, by simp [wfT], fun b => by rw [hfp, hs]; rfl, 0, by rw [hs, h5]; exact World.ownsRow_nil w 0 0 ks.length⟩
      | false => exact ⟨h3, by simp [wfT], fun b => by rw [hfp, hs]; rfl, none, 0, by rw [hs]; exact h5, ⟨⟨Nat.le_refl _, Nat.zero_le _⟩, nofun, fun _ => rfl⟩, fun j v hv => by simp [flat] at hv⟩
    · obtain ⟨base, h5, hsp⟩ := hr l _ h1
      have hs := (ex.same l _ h1).2
      subst h2
      exact ⟨h3, by simp [wfT], fun b => by rw [hfp, hs]; rfl, base, 0, by rw [hs]; exact h5, ⟨⟨Nat.le_refl _, Nat.zero_le _⟩, hsp, fun _ => rfl⟩, fun j v hv => by simp [flat] at hv⟩
    · have hrel := hr l _ h1
      have hs := (ex.same l _ h1).2
      obtain ⟨p1, p2, p3, e, p4⟩ := (hH.ob _ _ h2).2
      subst h3 h4
      obtain ⟨q1, q2, q3⟩ := own_cut p4 hrel
      exact ⟨p1, fun x hx => p2 x (List.mem_of_mem_take hx), fun b => by rw [hfp, hs]; rfl, e, by rw [hs, List.length_take, Nat.min_eq_left q2]; exact q1⟩
  | gone => trivial
  | crow z n asq =>
    obtain ⟨l', n', bs, e, vs, h1, h2, h3, h4, h5⟩ := hti
    obtain ⟨_, hsv, _⟩ := hr l _ h1
    have hs := (ex.same l _ h1).2
    exact ⟨h3, fun b => by rw [hfp, hs]; rfl, e, vs, by rw [hs, hsv]; exact h4, h5 r _ _ ex hM⟩
theorem closeF_ok (hH : hpH ν N w H) (hr : rnOK ν N νf r) {hs : List Ob} (ht : ∀ l o, hs[l]? = some o → Tied ν w H r νf l o) (hap : apartR r (enum 0 hs) = true) (hb : ∀ l a, rget r l = some a → l < hs.length) :
    hpH (closeF ν νf r hs) hs.length w (heap0 hs) := by
  have lt : ∀ l o, hs[l]? = some o → l < hs.length := fun l o h => (List.getElem?_eq_some_iff.1 h).1
  refine ⟨fun l o hg => ?_, fun l o hg => ?_, fun l l' o o' hne hg hg' hown b hb1 hb2 => ?_⟩
  · rw [hget_heap0] at hg
    refine ⟨lt l o hg, ?_⟩
    have hti := ht l o hg
    have hfp := closeF_fp (ν := ν) (νf := νf) (r := r) hg
    exact close_ob hH hr hti (ext_closeF hs) hb hfp
  · rw [hst_heap0]
    rw [hget_heap0] at hg
    have := lt l o hg
    omega
  · rw [hget_heap0] at hg hg'
    have c1 : fpF ν νf r l b o := by
      have := closeF_fp (ν := ν) (νf := νf) (r := r) hg b
      rw [← this]
      cases o <;> first | exact hb1 | exact hb1.elim
    have c2 : fpF ν νf r l' b o' := by
      have := closeF_fp (ν := ν) (νf := νf) (r := r) hg' b
      rw [← this]
      cases o' <;> first | exact hb2 | exact hb2.elim
    obtain ⟨m, om, q1, q2, q3, q4⟩ := tied_fp hH hr (ht l o hg) c1
    obtain ⟨m', om', q1', q2', q3', q4'⟩ := tied_fp hH hr (ht l' o' hg') c2
    by_cases hm : m = m'
    · subst hm
      rcases apartR_ne hap (l, o) (l', o') (enum_mem.2 ⟨Nat.zero_le _, hg⟩) (enum_mem.2 ⟨Nat.zero_le _, hg'⟩) hne m q1 q1' with a1 | a1 | ⟨a1, a2⟩
      · simp only at a1
        rw [a1] at c1
        exact c1
      · simp only at a1
        rw [a1] at c2
        exact c2
      · simp only at a1 a2
        rw [a1, a2] at hown
        simp at hown
    · exact hH.ap m m' om om' hm q2 q2' (hown.imp q4 q4') b q3 q3'
end
end Sx

set_option linter.all false
namespace Sx
open Go
def og : List (Nat × Ob) → Nat → Option Ob
  | [], _ => none
  | (l, o) :: fs, k => if l = k then some o else og fs k
def outF (s : Nat) (H : Hp) : List (Nat × Ob) → Hp
  | [] => H
  | (l, o) :: fs => hset (outF s H fs) l s o
theorem hget_outF (s : Nat) (H : Hp) (k : Nat) : ∀ fs, hget (outF s H fs) k = (og fs k).or (hget H k)
  | [] => rfl
  | (l, o) :: fs => by
    simp only [outF, og, hget_hset, hget_outF s H k fs]
    split <;> simp
theorem hst_outF (s : Nat) (H : Hp) (k : Nat) : ∀ fs, hst (outF s H fs) k = if (og fs k).isSome then s else hst H k
  | [] => rfl
  | (l, o) :: fs => by
    simp only [outF, og, hst_hset, hst_outF s H k fs]
    split <;> simp
theorem og_mem : ∀ {fs : List (Nat × Ob)} {l : Nat} {o : Ob}, og fs l = some o → (l, o) ∈ fs
  | (m, p) :: fs, l, o, h => by
    simp only [og] at h
    split at h
    · rename_i e
      cases h
      subst e
      simp
    · exact List.mem_cons_of_mem _ (og_mem h)
def act (r : Rn) (nf nx l : Nat) : Option Nat := if l < nf then (rget r l).bind tgt else some (nx + (l - nf))
def src (r : Rn) (nf nx m : Nat) : List (Nat × Ob) → Option (Nat × Ob)
  | [] => none
  | (l, o) :: fs => if act r nf nx l = some m then some (l, o) else src r nf nx m fs
theorem blt_if {a b : Nat} : Nat.blt a b = decide (a < b) := by
  by_cases h : a < b
  · simp [h]
  · cases hb : Nat.blt a b with
    | false => simp [h]
    | true => exact absurd (by simpa using hb) h
theorem hget_outH (r : Rn) (nf nx : Nat) (H : Hp) (m : Nat) : ∀ fs, hget (outH r nf nx H fs) m = match src r nf nx m fs with
    | some q => some (renOb r nf nx q.2)
    | none => hget H m
  | [] => rfl
  | (l, o) :: fs => by
    have ih := hget_outH r nf nx H m fs
    simp only [outH, src, act, blt_if]
    by_cases h : l < nf
    · simp only [h, decide_true, if_true]
      cases hb : (rget r l).bind tgt with
      | none => simpa using ih
      | some t =>
        simp only [hget_hset, ih, Option.some.injEq]
        split <;> rfl
    · simp only [h, decide_false, if_false, hget_cons, Option.some.injEq, ih]
      split <;> rfl
theorem hst_outH (r : Rn) (nf nx : Nat) (H : Hp) (m : Nat) : ∀ fs, hst (outH r nf nx H fs) m = match src r nf nx m fs with
    | some _ => nx
    | none => hst H m
  | [] => rfl
  | (l, o) :: fs => by
    have ih := hst_outH r nf nx H m fs
    simp only [outH, src, act, blt_if]
    by_cases h : l < nf
    · simp only [h, decide_true, if_true]
      cases hb : (rget r l).bind tgt with
      | none => simpa using ih
      | some t =>
        simp only [hst_hset, ih, Option.some.injEq]
        split <;> rfl
    · simp only [h, decide_false, if_false, hst_cons, Option.some.injEq, ih]
      split <;> rfl
theorem src_og {r : Rn} {nf nx m : Nat} : ∀ {fs : List (Nat × Ob)} {l : Nat} {o : Ob}, src r nf nx m fs = some (l, o) → og fs l = some o ∧ act r nf nx l = some m
  | (k, p) :: fs, l, o, h => by
    simp only [src] at h
    split at h
    · rename_i e
      cases h
      exact ⟨by simp [og], e⟩
    · rename_i e
      obtain ⟨h1, h2⟩ := src_og h
      have : k ≠ l := fun ek => e (by rw [ek]; exact h2)
      exact ⟨by simp [og, this, h1], h2⟩
theorem src_none {r : Rn} {nf nx m : Nat} : ∀ {fs : List (Nat × Ob)}, src r nf nx m fs = none → ∀ l o, og fs l = some o → act r nf nx l ≠ some m
  | (k, p) :: fs, h, l, o, hl => by
    simp only [src] at h
    split at h
    · cases h
    · rename_i e
      simp only [og] at hl
      split at hl
      · rename_i ek
        rw [← ek]; exact e
      · exact src_none h l o hl
def Ent (P : Program) (f : FuncId) : Prop := ∃ fn c, P.funcs[f]? = some fn ∧ (fn.name == "runtime.NumGoroutine") = false ∧ fn.body = some c
def Ends {X : Type} (x : X) (ν : Nu) (w : World) (h : List Ob) (v : Value) (w' : World) (oc : Outc X) : Prop :=
  ∃ y : oc.Y, oc.post x y ∧ outOK h (oc.out x y) = true ∧ ∃ ν', relR ν' (h.length + oc.nn + 1) (oc.res x y) v ∧ hpH ν' (h.length + oc.nn + 1) w' (outF h.length (heap0 h) (oc.out x y)) ∧
    Mv ν h.length (heap0 h) w ν' (h.length + oc.nn + 1) (outF h.length (heap0 h) (oc.out x y)) w'
theorem Ent.run {P : Program} {f : FuncId} (h : Ent P f) (args : Array Value) (w : World) : (callFunc f args).run P w = .ok (.enter f args) w := by
  obtain ⟨fn, c, h1, h2, h3⟩ := h
  have h2 : fn.name ≠ "runtime.NumGoroutine" := by simpa using h2
  simp [callFunc, h1, h2, h3, mark]
def Good (P : Program) (f : FuncId) (S : Con) : Prop := Ent P f ∧ ∀ x, S.pre x → ∀ ν w args, relVs ν (S.heap x).length (S.args x) args → hpH ν (S.heap x).length w (heap0 (S.heap x)) →
  Calls P f args.toArray w fun e w' => ∃ v, e = .returned v ∧ ∃ oc, oc ∈ S.outs ∧ Ends x ν w (S.heap x) v w' oc
section
variable {P : Program} {ν νf ν1 ν' : Nu} {nf nx N1 : Nat} {w w' : World} {H : Hp} {r : Rn}
theorem ifB_both {c : Bool} {A : Prop} (h : ifB c A False) : c = true ∧ A := by cases c; exact h.elim; exact ⟨rfl, h⟩
theorem allOuts_mem {X : Type} {x : X} {K : R → Hp → Nat → Prop} : ∀ {os : List (Outc X)}, allOuts x r nf nx H K os → ∀ o ∈ os, ∀ y : o.Y, o.post x y → cutOK r (o.out x y) = true ∧ K (renR r nf nx (o.res x y)) (outH r nf nx H (o.out x y)) (nx + o.nn + 1)
  | [], _, _, ho, _, _ => by simp at ho
  | [o], h, _, ho, y, hy => by
    simp only [List.mem_singleton] at ho
    subst ho
    exact ifB_both (h y hy)
  | o :: p :: os, h, q, hq, y, hy => by
    rcases List.mem_cons.1 hq with rfl | hq
    · exact ifB_both (h.1 y hy)
    · exact allOuts_mem h.2 q hq y hy
theorem rnOK_bs (hr : rnOK ν nx νf r) {ν2 : Nu} (hb : ν2.blk = νf.blk) (hs : ν2.sv = νf.sv) : rnOK ν nx ν2 r := fun l a h => by
  have := hr l a h
  rw [hb, hs]
  exact this
structure Ren (ν νf ν1 ν' : Nu) (nf nx nn : Nat) (r : Rn) : Prop where
  rn : rnOK ν nx νf r
  ag : agree nf νf ν1
  old : ∀ m, m < nx → ν'.blk m = ν.blk m ∧ ν'.sv m = ν.sv m
  new : ∀ j, ν'.blk (nx + j) = ν1.blk (nf + j) ∧ ν'.sv (nx + j) = ν1.sv (nf + j)
variable {nn : Nat}
theorem Ren.sv (h : Ren ν νf ν1 ν' nf nx nn r) {l : Nat} (hl : l < nf) : match rget r l with
    | some (.f l' n) => relA ν' (nx + nn + 1) (.f l' n) (ν1.sv l)
    | some (.sb l' z x y) => relA ν' (nx + nn + 1) (.sb l' z x y) (ν1.sv l)
    | some .ns => ν1.sv l = .slice none 0 0
    | some .z => relA ν' (nx + nn + 1) .z (ν1.sv l)
    | _ => True := by
  have hag : agree nx ν ν' := fun m hm => h.old m hm
  rw [(h.ag l hl).2]
  split
  · rename_i hg; exact relA_mono hag (by omega) (h.rn l _ hg)
  · rename_i hg; exact relA_mono hag (by omega) (h.rn l _ hg)
  · rename_i hg; exact h.rn l _ hg
  · rename_i hg; exact h.rn l _ hg
  · trivial
theorem relA_ren (h : Ren ν νf ν1 ν' nf nx nn r) {a : A} {v : Value} (ha : relA ν1 (nf + nn + 1) a v) : relA ν' (nx + nn + 1) (renA r nf nx a) v := by
  cases a with
  | junk => trivial
  | l x => exact ha
  | np => exact ha
  | ns => exact ha
  | z => exact ha
  | o x => exact ha
  | p l o =>
    obtain ⟨h1, rfl⟩ := ha
    simp only [renA, blt_if]
    by_cases hl : l < nf
    · simp only [hl, decide_true]
      split
      · rename_i l' o' hg
        obtain ⟨_, h2, h3⟩ := h.rn l _ hg
        exact ⟨by omega, by rw [(h.old l' h2).1, ← h3, (h.ag l hl).1]⟩
      · trivial
    · simp only [hl, decide_false]
      refine ⟨by omega, ?_⟩
      rw [(h.new (l - nf)).1, show nf + (l - nf) = l by omega]
  | e l z i o =>
    obtain ⟨h1, b, off, n, cap, h2, h3, rfl⟩ := ha
    simp only [renA, blt_if]
    by_cases hl : l < nf
    · simp only [hl, decide_true]
      have hs := h.sv hl
      split
      · rename_i l' n' hg
        rw [hg] at hs
        obtain ⟨q1, q2, _⟩ := hs
        exact ⟨q1, b, off, n, cap, by rw [← q2]; exact h2, h3, rfl⟩
      · trivial
    · simp only [hl, decide_false]
      refine ⟨by omega, b, off, n, cap, ?_, h3, rfl⟩
      rw [(h.new (l - nf)).2, show nf + (l - nf) = l by omega]
      exact h2
  | f l n =>
    obtain ⟨h1, rfl, base, cap, h2, h3⟩ := ha
    simp only [renA, blt_if]
    by_cases hl : l < nf
    · simp only [hl, decide_true]
      have hs := h.sv hl
      split
      · rename_i l' n' hg
        rw [hg] at hs
        obtain ⟨q1, q2, _⟩ := hs
        exact ⟨q1, q2, base, cap, by rw [← q2]; exact h2, h3⟩
      · rename_i l' z x y hg
        rw [hg] at hs
        exact hs
      · rename_i hg
        rw [hg] at hs
        exact hs
      · rename_i hg
        rw [hg] at hs
        exact hs
      · trivial
    · simp only [hl, decide_false]
      have e : ν'.sv (nx + (l - nf)) = ν1.sv l := by rw [(h.new (l - nf)).2, show nf + (l - nf) = l by omega]
      exact ⟨by omega, e.symm, base, cap, by rw [e]; exact h2, h3⟩
  | sb l z a b =>
    obtain ⟨h1, base, n, cap, base', h2, h3⟩ := ha
    simp only [renA, blt_if]
    by_cases hl : l < nf
    · simp only [hl, decide_true]
      have hs := h.sv hl
      split
      · rename_i l' n' hg
        rw [hg] at hs
        obtain ⟨q1, q2, _⟩ := hs
        exact ⟨q1, base, n, cap, base', by rw [← q2]; exact h2, h3⟩
      · trivial
    · simp only [hl, decide_false]
      have e : ν'.sv (nx + (l - nf)) = ν1.sv l := by rw [(h.new (l - nf)).2, show nf + (l - nf) = l by omega]
      exact ⟨by omega, base, n, cap, base', by rw [e]; exact h2, h3⟩
  | fn f cs =>
    cases cs with
    | nil => exact ⟨by simp, ha.2⟩
    | cons c cs => trivial
theorem relAs_ren (h : Ren ν νf ν1 ν' nf nx nn r) : ∀ {asq : List A} {vs : List Value}, relAs ν1 (nf + nn + 1) asq vs → relAs ν' (nx + nn + 1) (asq.map (renA r nf nx)) vs
  | [], [], _ => trivial
  | _ :: _, _ :: _, ha => ⟨⟨relA_ren h ha.1.1, ha.1.2⟩, relAs_ren h ha.2⟩
  | [], _ :: _, ha => ha.elim
  | _ :: _, [], ha => ha.elim
theorem relV_ren (h : Ren ν νf ν1 ν' nf nx nn r) {a : V} {v : Value} (ha : relV ν1 (nf + nn + 1) a v) : relV ν' (nx + nn + 1) (renV r nf nx a) v := by
  cases a with
  | one a => exact relA_ren h ha
  | agg cs => obtain ⟨vs, h1, h2⟩ := ha; exact ⟨vs, h1, relAs_ren h h2⟩
theorem relVs_ren (h : Ren ν νf ν1 ν' nf nx nn r) : ∀ {asq : List V} {vs : List Value}, relVs ν1 (nf + nn + 1) asq vs → relVs ν' (nx + nn + 1) (asq.map (renV r nf nx)) vs
  | [], [], _ => trivial
  | _ :: _, _ :: _, ha => ⟨relV_ren h ha.1, relVs_ren h ha.2⟩
  | [], _ :: _, ha => ha.elim
  | _ :: _, [], ha => ha.elim
theorem relR_ren (h : Ren ν νf ν1 ν' nf nx nn r) {a : R} {v : Value} (ha : relR ν1 (nf + nn + 1) a v) : relR ν' (nx + nn + 1) (renR r nf nx a) v := by
  cases a with
  | v a => exact relV_ren h ha
  | tup asq => obtain ⟨vs, h1, h2⟩ := ha; exact ⟨vs, h1, relVs_ren h h2⟩
def backNu (ν ν1 : Nu) (r : Rn) (nf nx : Nat) (out : List (Nat × Ob)) : Nu :=
  ⟨fun m => if m < nx then ν.blk m else ν1.blk (nf + (m - nx)), fun m => if m < nx then ν.sv m else ν1.sv (nf + (m - nx)), fun m => match src r nf nx m out with
    | some q => ν1.fp q.1
    | none => ν.fp m⟩
theorem backRen (hr : rnOK ν nx νf r) (hag : agree nf νf ν1) (out : List (Nat × Ob)) : Ren ν νf ν1 (backNu ν ν1 r nf nx out) nf nx nn r :=
  ⟨hr, hag, fun m hm => by simp [backNu, hm], fun j => by simp [backNu, show ¬ nx + j < nx by omega]⟩
theorem call_back (hH : hpH ν nx w H) (hr : rnOK ν nx νf r) {hs : List Ob} (ht : ∀ l o, hs[l]? = some o → Tied ν w H r νf l o) (hap : apartR r (enum 0 hs) = true)
    {out : List (Nat × Ob)} (hout : outOK hs out = true) (hcut : cutOK r out = true) {res : R} {v : Value} (hres : relR ν1 (hs.length + nn + 1) res v) (h1 : hpH ν1 (hs.length + nn + 1) w' (outF hs.length (heap0 hs) out))
    (hm : Mv (closeF ν νf r hs) hs.length (heap0 hs) w ν1 (hs.length + nn + 1) (outF hs.length (heap0 hs) out) w') {K : R → Hp → Nat → Prop} (hK : K (renR r hs.length nx res) (outH r hs.length nx H out) (nx + nn + 1)) : Goes ν nx H w K v w' := by
  have hag : agree hs.length νf ν1 := hm.ag
  have R0 : Ren ν νf ν1 (backNu ν ν1 r hs.length nx out) hs.length nx nn r := backRen hr hag out
  have agN : agree nx ν (backNu ν ν1 r hs.length nx out) := R0.old
  have lt : ∀ l o, hs[l]? = some o → l < hs.length := fun l o h => (List.getElem?_eq_some_iff.1 h).1
  have fpb : ∀ m l o, src r hs.length nx m out = some (l, o) → (backNu ν ν1 r hs.length nx out).fp m = ν1.fp l := fun m l o h => by simp [backNu, h]
  have fpn : ∀ m, src r hs.length nx m out = none → (backNu ν ν1 r hs.length nx out).fp m = ν.fp m := fun m h => by simp [backNu, h]
  have okO : ∀ l o, og out l = some o → (o = .gone ∨ ownOb o = true) ∧ ∀ o0, hs[l]? = some o0 → ownOb o0 = true ∧ likeOb o0 o = true := by
    intro l o h
    have h2 := (List.all_eq_true.1 hout) _ (og_mem h)
    simp only [Bool.and_eq_true] at h2
    refine ⟨?_, fun o0 h0 => ?_⟩
    · cases o <;> first | exact .inl rfl | exact .inr h2.1
    · have := h2.2
      rw [h0] at this
      simpa using this
  -- what formal labels came to
  have hgF : ∀ l o, og out l = some o → hget (outF hs.length (heap0 hs) out) l = some o := fun l o h => by rw [hget_outF, h]; rfl
  have hgF0 : ∀ l, og out l = none → hget (outF hs.length (heap0 hs) out) l = hs[l]? := fun l h => by rw [hget_outF, h, hget_heap0]; rfl
  -- an own formal label's blocks, in the actual heap
  have own0 : ∀ b, own (closeF ν νf r hs) (heap0 hs) b → ∃ l o m om, hs[l]? = some o ∧ ownOb o = true ∧ (closeF ν νf r hs).fp l b ∧ (rget r l).bind tgt = some m ∧ hget H m = some om ∧ ownOb om = true ∧ fpO ν m om b := by
    rintro b ⟨l, o, hg, ho, hb⟩
    rw [hget_heap0] at hg
    have hb' := hb
    rw [closeF_fp hg] at hb'
    obtain ⟨m, om, q1, q2, q3, q4⟩ := tied_fp hH hr (ht l o hg) hb'
    exact ⟨l, o, m, om, hg, ho, hb, q1, q2, q4 ho, q3⟩
  have fpOwn : ∀ (ν0 : Nu) m om b, fpO ν0 m om b → ν0.fp m b := fun ν0 m om b h => by cases om <;> first | exact h | exact h.elim
  have fpOof : ∀ (ν0 : Nu) m om b, ownOb om = true → ν0.fp m b → fpO ν0 m om b := fun ν0 m om b h hb => by cases om <;> first | exact hb | cases h
  have actL : ∀ l, l < hs.length → act r hs.length nx l = (rget r l).bind tgt := fun l hl => by simp [act, hl]
  -- a label that is kept keeps its blocks
  have keepB : ∀ m om, src r hs.length nx m out = none → hget H m = some om → ∀ b, fpO ν m om b → w'.heap[b]? = w.heap[b]? := by
    intro m om hsr hg b hb
    have hlt := fp_lt (hH.ob m om hg).2 hb
    by_cases hown : own (closeF ν νf r hs) (heap0 hs) b
    · obtain ⟨l, o, m', om', q1, q2, q3, q4, q5, q6, q7⟩ := own0 b hown
      by_cases e : m = m'
      · subst e
        have hlt' := lt l o q1
        have hol : og out l = none := by
          cases ho : og out l with
          | none => rfl
          | some p => exact absurd (by rw [actL l hlt']; exact q4) (src_none hsr l p ho)
        obtain ⟨_, _, p3⟩ := hm.kp l o (by rw [hget_heap0]; exact q1) (by rw [hst_outF, hol]; rfl)
        exact p3 b (fpOof _ _ _ _ q2 q3)
      · exact absurd q7 fun h => hH.ap m m' om om' e hg q5 (.inr q6) b hb h
    · exact hm.go.block b hlt hown
  -- what has changed lies in blocks that were own, or new
  have chB : ∀ m l o, src r hs.length nx m out = some (l, o) → ownOb o = true → ∀ b, ν1.fp l b → w.heap.size ≤ b ∨ ∃ m' om, src r hs.length nx m' out ≠ none ∧ hget H m' = some om ∧ ownOb om = true ∧ fpO ν m' om b := by
    intro m l o hsr ho b hb
    obtain ⟨g1, g2⟩ := src_og hsr
    rcases hm.own b ⟨l, o, hgF l o g1, ho, hb⟩ with h | h
    · obtain ⟨l', o', m', om', q1, q2, q3, q4, q5, q6, q7⟩ := own0 b h
      refine .inr ⟨m', om', fun hn => ?_, q5, q6, q7⟩
      have hlt' := lt l' o' q1
      have hol : og out l' = none := by
        cases ho : og out l' with
        | none => rfl
        | some p => exact absurd (by rw [actL l' hlt']; exact q4) (src_none hn l' p ho)
      obtain ⟨p1, p2, _⟩ := hm.kp l' o' (by rw [hget_heap0]; exact q1) (by rw [hst_outF, hol]; rfl)
      have hne : l ≠ l' := fun e => by rw [e, hol] at g1; cases g1
      exact h1.ap l l' o o' hne (hgF l o g1) p1 (.inl ho) b (fpOof _ _ _ _ ho hb) (fpOof _ _ _ _ q2 (by rw [p2]; exact q3))
    · exact .inl h
  have getC : ∀ m o', src r hs.length nx m out ≠ none → hget (outH r hs.length nx H out) m = some o' → ∃ l o, src r hs.length nx m out = some (l, o) ∧ o' = renOb r hs.length nx o := by
    intro m o' hne hg
    rw [hget_outH] at hg
    cases hsr : src r hs.length nx m out with
    | none => exact absurd hsr hne
    | some q =>
      rw [hsr] at hg
      simp only [Option.some.injEq] at hg
      exact ⟨q.1, q.2, rfl, hg.symm⟩
  have getK : ∀ m o', src r hs.length nx m out = none → hget (outH r hs.length nx H out) m = some o' → hget H m = some o' := fun m o' h hg => by rw [hget_outH, h] at hg; exact hg
  have ownR : ∀ o, ownOb (renOb r hs.length nx o) = ownOb o := fun o => by cases o <;> rfl
  have fpR : ∀ (ν0 : Nu) m o b, fpO ν0 m (renOb r hs.length nx o) b → fpO ν0 m o b := fun ν0 m o b h => by cases o <;> exact h
  have notGone : ∀ (ν0 : Nu) m l o b, og out l = some o → fpO ν0 m o b → ownOb o = true := fun ν0 m l o b h hb => by
    rcases (okO l o h).1 with rfl | h
    · exact hb.elim
    · exact h
  have hstB : ∀ l o, hget (outH r hs.length nx H out) l = some o → hst (outH r hs.length nx H out) l < nx + nn + 1 := by
    intro l o hg
    rw [hst_outH]
    cases hsr : src r hs.length nx l out with
    | none =>
      have := hH.st l o (getK l o hsr hg)
      simp only
      omega
    | some q => simp only; omega
  have actLt : ∀ m l o, src r hs.length nx m out = some (l, o) → m < nx + nn + 1 ∧ (l < hs.length → m < nx) := by
    intro m l o hsr
    obtain ⟨g1, g2⟩ := src_og hsr
    have hl1 := (h1.ob l o (hgF l o g1)).1
    simp only [act] at g2
    split at g2
    · rename_i hl
      cases hg : rget r l with
      | none => rw [hg] at g2; cases g2
      | some a =>
        rw [hg] at g2
        have := hr l a hg
        have hmx : m < nx := by
          cases a <;> simp only [Option.bind_some, tgt] at g2 <;> first | cases g2 | skip
          · exact this.2.1
          · exact this.1
          · exact this.1
        exact ⟨by omega, fun _ => hmx⟩
    · rename_i hl
      cases g2
      exact ⟨by omega, fun h => absurd h hl⟩
  refine ⟨backNu ν ν1 r hs.length nx out, nx + nn + 1, outH r hs.length nx H out, renR r hs.length nx res, relR_ren R0 hres, ?_, ⟨?_, ?_, agN, by omega, ?_, ?_⟩, hK⟩
  · refine hpH_upd hH (fun m => src r hs.length nx m out = none) hstB (by omega) agN hm.go.size ?_ keepB ?_ ?_ ?_
    · exact fun l o hk hg => ⟨getK l o hk hg, fpn l hk⟩
    · intro m o' hk hg
      obtain ⟨l, o, hsr, rfl⟩ := getC m o' hk hg
      obtain ⟨g1, g2⟩ := src_og hsr
      obtain ⟨_, hob⟩ := h1.ob l o (hgF l o g1)
      obtain ⟨hmlt, hmx⟩ := actLt m l o hsr
      refine ⟨hmlt, ?_⟩
      have hfp := fpb m l o hsr
      -- the label's block and header
      have hbs : (∀ cs, o = .cells cs → (backNu ν ν1 r hs.length nx out).blk m = ν1.blk l) ∧ (∀ ks xs, o = .row true ks xs → (backNu ν ν1 r hs.length nx out).sv m = ν1.sv l) ∧ (∀ z n cs, o = .crow z n cs → (backNu ν ν1 r hs.length nx out).sv m = ν1.sv l) ∧ (∀ a, o = .abs a → (backNu ν ν1 r hs.length nx out).blk m = ν1.blk l) := by
        by_cases hl : l < hs.length
        · obtain ⟨o0, ho0⟩ : ∃ o0, hs[l]? = some o0 := ⟨_, List.getElem?_eq_getElem hl⟩
          have hlk := ((okO l o g1).2 o0 ho0).2
          have hti := ht l o0 ho0
          rw [actL l hl] at g2
          have hmx := hmx hl
          have hP : ∀ q, rget r l = some (.p q 0) → (backNu ν ν1 r hs.length nx out).blk m = ν1.blk l := by
            intro q hq
            rw [hq] at g2
            cases g2
            obtain ⟨_, _, h5⟩ := hr l _ hq
            rw [(agN m hmx).1, (hag l hl).1, h5]
          refine ⟨fun cs e => ?_, fun ks xs e => ?_, fun z n cs e => ?_, fun a e => ?_⟩
          · subst e
            cases o0 with
            | cells _ =>
              obtain ⟨q, _, _, _, hq, _⟩ := hti
              exact hP q hq
            | row ow _ _ => cases ow <;> simp [likeOb] at hlk
            | abs _ => simp [likeOb] at hlk
            | gone => simp [likeOb] at hlk
            | crow _ _ _ => simp [likeOb] at hlk
          · subst e
            cases o0 with
            | row ow ks' xs' =>
              cases ow with
              | false => simp [likeOb] at hlk
              | true =>
                rcases hti with ⟨q, n, own', hq, _⟩ | ⟨hf, _⟩ | ⟨hq, _⟩ | ⟨hf, _⟩ | ⟨_, _, _, _, _, hq, _⟩
                · rw [hq] at g2
                  cases g2
                  obtain ⟨_, h5, _⟩ := hr l _ hq
                  rw [(agN m hmx).2, (hag l hl).2, h5]
                · cases hf
                · rw [hq] at g2; cases g2
                · cases hf
                · have h5 := (List.all_eq_true.1 hcut) _ (og_mem g1)
                  simp [hq] at h5
            | cells _ => simp [likeOb] at hlk
            | abs _ => simp [likeOb] at hlk
            | gone => simp [likeOb] at hlk
            | crow _ _ _ => simp [likeOb] at hlk
          · subst e
            cases o0 with
            | crow _ _ _ =>
              obtain ⟨q, n, _, _, _, hq, _⟩ := hti
              rw [hq] at g2
              cases g2
              obtain ⟨_, h5, _⟩ := hr l _ hq
              rw [(agN m hmx).2, (hag l hl).2, h5]
            | row ow _ _ => cases ow <;> simp [likeOb] at hlk
            | cells _ => simp [likeOb] at hlk
            | abs _ => simp [likeOb] at hlk
            | gone => simp [likeOb] at hlk
          · subst e
            cases o0 with
            | abs _ =>
              obtain ⟨q, hq, _⟩ := hti
              exact hP q hq
            | row ow _ _ => cases ow <;> simp [likeOb] at hlk
            | cells _ => simp [likeOb] at hlk
            | gone => simp [likeOb] at hlk
            | crow _ _ _ => simp [likeOb] at hlk
        · simp only [act, hl, if_false, Option.some.injEq] at g2
          have hn := R0.new (l - hs.length)
          rw [g2, show hs.length + (l - hs.length) = l by omega] at hn
          exact ⟨fun _ _ => hn.1, fun _ _ _ => hn.2, fun _ _ _ _ => hn.2, fun _ _ => hn.1⟩
      cases o with
      | cells cs =>
        obtain ⟨p1, vs, T, p2, p3⟩ := hob
        have hb := hbs.1 cs rfl
        exact ⟨by rw [hfp, hb]; exact p1, vs, T, by rw [hb]; exact p2, relAs_ren R0 p3⟩
      | row ow ks xs =>
        cases ow with
        | true =>
          obtain ⟨p0, p1, p2, e, p3⟩ := hob
          have hb := hbs.2.1 ks xs rfl
          exact ⟨p0, p1, by rw [hfp, hb]; exact p2, e, by rw [hb]; exact p3⟩
        | false => rcases (okO l _ g1).1 with h | h <;> cases h
      | abs a =>
        have hb := hbs.2.2.2 a rfl
        refine ⟨by rw [hfp]; exact hob.1, ?_⟩
        rw [hfp, hb]
        exact hob.2
      | gone => trivial
      | crow z n cs =>
        obtain ⟨p0, p1, e, vs, p2, p3⟩ := hob
        have hb := hbs.2.2.1 z n cs rfl
        exact ⟨p0, by rw [hfp, hb]; exact p1, e, vs, by rw [hb]; exact p2, relAs_ren R0 p3⟩
    · intro m o' hk hg b hb
      obtain ⟨l, o, hsr, rfl⟩ := getC m o' hk hg
      obtain ⟨g1, g2⟩ := src_og hsr
      have hb := fpR _ _ _ _ hb
      have ho := notGone _ _ l o b g1 hb
      have hb := fpOwn _ _ _ _ hb
      rw [fpb m l o hsr] at hb
      exact chB m l o hsr ho b hb
    · intro m m' om om' hne hk hk' hg hg' _ b hb hb'
      obtain ⟨l, o, hsr, rfl⟩ := getC m om hk hg
      obtain ⟨l', o', hsr', rfl⟩ := getC m' om' hk' hg'
      obtain ⟨g1, g2⟩ := src_og hsr
      obtain ⟨g1', g2'⟩ := src_og hsr'
      have hb := fpR _ _ _ _ hb
      have hb' := fpR _ _ _ _ hb'
      have ho := notGone _ _ l o b g1 hb
      have ho' := notGone _ _ l' o' b g1' hb'
      have hb := fpOwn _ _ _ _ hb
      have hb' := fpOwn _ _ _ _ hb'
      rw [fpb m l o hsr] at hb
      rw [fpb m' l' o' hsr'] at hb'
      have hl : l ≠ l' := fun e => hne (by rw [e, g2'] at g2; exact (Option.some.inj g2).symm)
      exact h1.ap l l' o o' hl (hgF l o g1) (hgF l' o' g1') (.inl ho) b (fpOof _ _ _ _ ho hb) (fpOof _ _ _ _ ho' hb')
  · refine hm.go.mono fun b hb => ?_
    obtain ⟨_, _, m, om, _, _, _, _, q5, q6, q7⟩ := own0 b hb
    exact ⟨m, om, q5, q6, fpOwn _ _ _ _ q7⟩
  · rintro b ⟨m, om, hg, ho, hb⟩
    by_cases hk : src r hs.length nx m out = none
    · rw [fpn m hk] at hb
      exact .inl ⟨m, om, getK m om hk hg, ho, hb⟩
    · obtain ⟨l, o, hsr, rfl⟩ := getC m om hk hg
      rw [ownR] at ho
      rw [fpb m l o hsr] at hb
      rcases chB m l o hsr ho b hb with h | ⟨m', om', _, h2, h3, h4⟩
      · exact .inr h
      · exact .inl ⟨m', om', h2, h3, fpOwn _ _ _ _ h4⟩
  · intro m om hg he
    rw [hst_outH] at he
    have hlt := hH.st m om hg
    cases hsr : src r hs.length nx m out with
    | some q => rw [hsr] at he; simp only at he; omega
    | none => exact ⟨by rw [hget_outH, hsr]; exact hg, fpn m hsr, keepB m om hsr hg⟩
  · intro m
    rw [hst_outH]
    cases hsr : src r hs.length nx m out with
    | some q => exact .inr (Nat.le_refl _)
    | none => exact .inl rfl
theorem rnOK_nil : rnOK ν nx νf [] := fun l a h => by cases h
theorem callS_sound {f : FuncId} {S : Con} (hg : Good P f S) {args : List V} {vs : List Value} (hv : relVs ν nx args vs) (hH : hpH ν nx w H) {K : R → Hp → Nat → Prop} (h : callS S args H nx K) :
    Calls P f vs.toArray w fun e w' => ∃ v, e = .returned v ∧ Goes ν nx H w K v w' := by
  obtain ⟨x, h⟩ := h
  obtain ⟨r1, ν1, h1, hr1, e1, f1⟩ := mtVs_sound (νf := ν) rnOK_nil hv h
  obtain ⟨r2, ν2, h2, hr2, e2, t2⟩ := mtHp_sound hH hr1 h1
  unfold ifB at h2
  split at h2
  · rename_i hc
    simp only [Bool.and_eq_true] at hc
    obtain ⟨hp, ho⟩ := h2
    have hb : ∀ l a, rget r2 l = some a → l < (S.heap x).length := by
      intro l a hl
      have hmem : ∀ {r : Rn}, rget r l = some a → (l, a) ∈ r := by
        intro r
        induction r with
        | nil => intro h; cases h
        | cons q r ih =>
          intro h
          rw [show q = (q.1, q.2) from rfl, rget_cons] at h
          split at h
          · rename_i e
            cases h
            subst e
            simp
          · exact List.mem_cons_of_mem _ (ih h)
      have := (List.all_eq_true.1 hc.2) _ (hmem hl)
      rw [blt_if] at this
      simpa using this
    have ht : ∀ l o, (S.heap x)[l]? = some o → Tied ν w H r2 ν2 l o := fun l o hl => t2 (l, o) (enum_mem.2 ⟨Nat.zero_le _, by simpa using hl⟩)
    have hF := closeF_ok hH hr2 ht hc.1 hb
    have ha := f1 r2 (closeF ν ν2 r2 (S.heap x)) (S.heap x).length (e2.trans (ext_closeF _)) hb
    refine Calls.mono (hg.2 x hp _ w vs ha hF) ?_
    rintro e w' ⟨v, rfl, oc, hoc, y, hy, hout, ν', hres, hH', hm⟩
    exact ⟨v, rfl, call_back hH hr2 ht hc.1 hout (allOuts_mem ho oc hoc y hy).1 hres hH' hm (allOuts_mem ho oc hoc y hy).2⟩
  · exact h2.elim
end
end Sx

set_option linter.all false
namespace Sx
open Go
def InlOK (P : Program) (inl : FuncId → List V → Hp → Nat → (R → Hp → Nat → Prop) → Prop) : Prop := ∀ f args H nx K, inl f args H nx K → Ent P f ∧ ∀ ν w vs, relVs ν nx args vs → hpH ν nx w H →
  Calls P f vs.toArray w fun e w' => ∃ v, e = .returned v ∧ Goes ν nx H w K v w'
section
variable {P : Program} {T : FuncId → Option Con} {inl : FuncId → List V → Hp → Nat → (R → Hp → Nat → Prop) → Prop} {ν : Nu} {N : Nat} {w : World} {H : Hp}
theorem vals_rel : ∀ {xs : List R} {us : List Value} {vs : List V}, (∀ i, i < xs.length → relR ν N (xs.getD i .junk) (us.getD i undef)) → xs.length = us.length → vals xs = some vs → relVs ν N vs us
  | [], [], vs, _, _, h => by cases h; trivial
  | [], _ :: _, _, _, h, _ => by simp at h
  | _ :: _, [], _, _, h, _ => by simp at h
  | .v x :: xs, u :: us, vs, hr, hl, h => by
    simp only [vals] at h
    split at h
    · rename_i ws hw
      cases h
      exact ⟨hr 0 (by simp), vals_rel (fun i hi => by simpa using hr (i + 1) (by simpa using hi)) (by simpa using hl) hw⟩
    · cases h
  | .tup _ :: _, _ :: _, _, _, _, h => by simp [vals] at h
theorem relVs_app : ∀ {xs ys : List V} {us vs : List Value}, relVs ν N xs us → relVs ν N ys vs → relVs ν N (xs ++ ys) (us ++ vs)
  | [], _, [], _, _, h => h
  | _ :: _, _, _ :: _, _, h, h' => ⟨h.1, relVs_app h.2 h'⟩
  | [], _, _ :: _, _, h, _ => h.elim
  | _ :: _, _, [], _, h, _ => h.elim
theorem relVs_ptr : ∀ {cs : List (Nat × Nat)}, (∀ q ∈ cs, q.1 < N) → relVs ν N (cs.map fun q => .one (.p q.1 q.2)) (cs.map fun q => Value.pointer (some ⟨ν.blk q.1, q.2, none⟩))
  | [], _ => trivial
  | c :: cs, h => ⟨⟨h c (by simp), rfl⟩, relVs_ptr fun q hq => h q (by simp [hq])⟩
theorem goes_stay (hH : hpH ν N w H) {r : R} {v : Value} (hr : relR ν N r v) {K : R → Hp → Nat → Prop} (h : K r H N) : Goes ν N H w K v w := ⟨ν, N, H, r, hr, hH, Mv.stay _ _ _ _ _ (Nat.le_refl _), h⟩
theorem callK_sound (hT : ∀ f S, T f = some S → Good P f S) (hI : InlOK P inl) {f : R} {xs : List R} {u : Value} {us : List Value} (hf : relR ν N f u) (hx : ∀ i, i < xs.length → relR ν N (xs.getD i .junk) (us.getD i undef)) (hl : xs.length = us.length)
    (hH : hpH ν N w H) {K : R → Hp → Nat → Prop} (h : callK T inl f xs H N K) :
    ∃ g cs, u = .func (.func g) #[] cs ∧ Ent P g ∧ Calls P g (us.toArray ++ cs) w fun e w' => ∃ v, e = .returned v ∧ Goes ν N H w K v w' := by
  unfold callK at h
  split at h
  · rename_i g cs vs hv
    obtain ⟨h1, h2⟩ := hf
    have hr := relVs_app (vals_rel hx hl hv) (relVs_ptr (ν := ν) h1)
    have he : (us ++ (cs.map fun q => Value.pointer (some ⟨ν.blk q.1, q.2, none⟩))).toArray = us.toArray ++ (cs.map fun q => Value.pointer (some ⟨ν.blk q.1, q.2, none⟩)).toArray := by simp
    split at h
    · rename_i S hS
      have hg := hT _ _ hS
      exact ⟨g, _, h2, hg.1, by rw [← he]; exact callS_sound hg hr hH h⟩
    · obtain ⟨p1, p2⟩ := hI _ _ _ _ _ h
      exact ⟨g, _, h2, p1, by rw [← he]; exact p2 ν w _ hr hH⟩
  · exact h.elim
theorem nilK_sound {x : R} {u : Value} (hx : relR ν N x u) {K : Bool → Prop} (h : nilK x K) : ∃ a n c, u = .slice a n c ∧ K a.isNone := by
  unfold nilK at h
  split at h
  · cases hx
    exact ⟨_, _, _, rfl, h⟩
  · obtain ⟨_, rfl, base, cap, h1, h2, _, h3⟩ := hx
    refine ⟨_, _, _, h1, ?_⟩
    cases base with
    | some a => exact h.2
    | none => exact h.1 (by have := h3 rfl; omega)
  · obtain ⟨_, base, n, cap, base', _, _, _, _, rfl, _, h2, _, h3⟩ := hx
    refine ⟨_, _, _, rfl, ?_⟩
    cases base' with
    | some a => exact h.2
    | none => exact h.1 (by have := h3 rfl; omega)
  · exact h.elim
theorem run_eqIn_sl (d : Nat) {t e : TypeId} {a : Option Addr} {n c : Nat} (hu : P.underlying t = some (.slice e)) : (Op.equalIn (d + 1) t (.slice a n c) (.slice none 0 0)).run P w = .ok a.isNone w := by
  cases a <;> simp [Op.equalIn, run_underlying hu]
theorem run_eq_sl {t e : TypeId} {a : Option Addr} {n c : Nat} (hu : P.underlying t = some (.slice e)) : (Op.equal t (.slice a n c) (.slice none 0 0)).run P w = .ok a.isNone w := run_eqIn_sl 9999 hu
theorem nilOp_sound {op : BinOp} {t : TypeId} {x : R} {u : Value} {xo yo : Operand} (hx : relR ν N x u) {K : Bool → Prop} (h : nilOp P op t x K) : ∃ b, (bin op t xo yo u (.slice none 0 0)).run P w = .ok (.bool b) w ∧ K b := by
  unfold nilOp at h
  split at h
  · rename_i e he
    obtain ⟨a, n, c, rfl, h⟩ := nilK_sound hx h
    refine ⟨_, ?_, h⟩
    have hu : P.underlying t = some (.slice e) := by unfold elemT at he; split at he <;> simp_all
    simp [bin, eqGuard_at_slice, binOp, run_eq_sl hu]
  · rename_i e he
    obtain ⟨a, n, c, rfl, h⟩ := nilK_sound hx h
    refine ⟨_, ?_, h⟩
    have hu : P.underlying t = some (.slice e) := by unfold elemT at he; split at he <;> simp_all
    simp [bin, eqGuard_at_slice, binOp, run_eq_sl hu]
  · exact h.elim
theorem opK_sound (hT : ∀ f S, T f = some S → Good P f S) (hI : InlOK P inl) {tm : List R} {a : Act} (ht : relT ν N tm a.tmps) (hH : hpH ν N w H) {o : Oper} {K : R → Hp → Nat → Prop} (h : opK P T inl tm H N o.op K)
    {next : Act → World → Prop} {Q : Exit → Act → World → Prop} (hn : ∀ v w', Goes ν N H w K v w' → next (a.put o.dst v) w') : o.wp P a w next Q := by
  have E := relR_ev (ν := ν) (N := N) ht
  have quiet : (fl P tm H o.op).holds (fun r => K r H N) → o.wp P a w next Q := by
    intro h
    obtain ⟨r, h1, h2⟩ := Fl.holds_out h
    obtain ⟨v, h3, h4⟩ := fl_sound ht hH h1
    exact wp_of_run h4 (hn v w (goes_stay hH h3 h2))
  obtain ⟨dst, op, type, pos, after, guard⟩ := o
  unfold opK at h
  simp only at h quiet hn
  split at h
  · rename_i t
    split at h
    · rename_i z hz
      obtain ⟨v, w', h1, h2⟩ := alloc_sound (P := P) hH hz h
      exact wp_of_run (by simp [execOp, h1]) (hn v w' h2)
    · exact h.elim
  · rename_i t x
    split at h
    · rename_i v hv
      have hx := E x
      rw [hv] at hx
      split at h
      · rename_i vs hvs
        obtain ⟨z, w', h1, h2⟩ := box_sound (P := P) (t := t) hH hx hvs h
        exact wp_of_run (by simp [execOp, h1]) (hn z w' h2)
      · exact h.elim
    · exact h.elim
  · rename_i t n parts
    obtain ⟨z, w', h1, h2⟩ := buildSlice_sound (P := P) hH (relParts_ev ht parts.toList) h
    have he : (parts.map fun q => (q.1, a.eval q.2)) = (parts.toList.map fun q => (q.1, a.eval q.2)).toArray := by rw [← Array.toList_inj, Array.toList_map]
    exact wp_of_run (by simp [execOp]; rw [he, h1]; rfl) (hn z w' h2)
  · rename_i t l c
    obtain ⟨z, w', h1, h2⟩ := makeSlice_sound (P := P) hH (E l) (E c) h
    exact wp_of_run (by simp [execOp, h1]) (hn z w' h2)
  · rename_i t x y
    obtain ⟨w', h1, h2⟩ := store_sound (P := P) hH (E x) (E y) h
    exact wp_of_skip (by simp [execOp, h1]) (hn undef w' h2)
  · rename_i op t x y q
    split at h
    · rename_i hy
      have hy : y = .const (.slice none 0 0) := by
        unfold isNilC at hy
        split at hy
        · rfl
        · cases hy
      subst hy
      obtain ⟨b, h1, h2⟩ := nilOp_sound (P := P) (w := w) (xo := x) (yo := .const (.slice none 0 0)) (E x) h
      have hy : a.eval (.const (.slice none 0 0)) = .slice none 0 0 := rfl
      refine wp_of_run ?_ (hn (.bool b) w (goes_stay hH (relB_mk _) h2))
      simp only [execOp, Sem.run_bind, hy] at h1 ⊢
      simp [h1]
    · exact quiet h
  · rename_i s d x
    split at h
    · rename_i e hs hd
      split at h
      · rename_i he
        obtain ⟨u, hu, z, w', h1, h2⟩ := toBytes_sound (P := P) (e := e) hH (E x) h
        refine wp_of_run (z := z) (w' := w') ?_ (hn z w' h2)
        simp [execOp, Go.convert, run_underlying hs, run_underlying hd, run_underlying he, hu, h1]
      · exact h.elim
    · split at h
      · rename_i hb
        have hb := Nat.eq_of_beq_eq_true hb
        subst hb
        obtain ⟨z, w', h1, h2⟩ := asText_sound (P := P) hH (E x) h
        exact wp_of_run (by simp [execOp, h1]) (hn z w' h2)
      · exact h.elim
    · exact quiet (by simpa [fl] using h)
  · rename_i c
    obtain ⟨callee, args, argTypes⟩ := c
    simp only at h
    split at h
    · rename_i f
      have hl : (args.toList.map (ev tm)).length = (args.toList.map a.eval).length := by simp
      obtain ⟨g, cs, h1, h2, h3⟩ := callK_sound hT hI (E f) (us := args.toList.map a.eval) (fun i hi => by
        have hi' : i < args.toList.length := by simpa using hi
        simp only [List.getD_eq_getElem?_getD, List.getElem?_map, List.getElem?_eq_getElem hi', Option.map_some, Option.getD_some]
        exact E _) hl hH h
      have he : (args.toList.map a.eval).toArray = args.map a.eval := by rw [← Array.toList_inj, Array.toList_map]
      rw [he] at h3
      unfold Oper.wp
      have hrun : (execOp a.eval ⟨dst, .call ⟨.value f, args, argTypes⟩, type, pos, after, guard⟩).run P w = .ok (.enter g (args.map a.eval ++ cs)) w := by
        simp [execOp, resolve, h1, Deferred.ofValue, invoke, h2.run]
      rw [hrun, Oper.upon_enter]
      refine Calls.mono h3 ?_
      rintro e w' ⟨v, rfl, hg⟩
      exact hn v w' hg
    · split at h
      · rename_i s x t t' ha ht'
        split at h
        · rename_i hb
          have hb := Nat.eq_of_beq_eq_true hb
          subst hb
          have e1 : args = #[s, x] := by rw [← Array.toList_inj]; simpa using ha
          have e2 : argTypes = #[t, t] := by rw [← Array.toList_inj]; simpa using ht'
          subst e1 e2
          obtain ⟨z, w', h1, h2⟩ := append_sound (P := P) (ty := type) hH (E s) (E x) h
          exact wp_of_run (by simp [execOp, resolve, invoke, Go.builtin, h1]) (hn z w' h2)
        · have e1 : args = #[s, x] := by rw [← Array.toList_inj]; simpa using ha
          have e2 : argTypes = #[t, t'] := by rw [← Array.toList_inj]; simpa using ht'
          subst e1 e2
          obtain ⟨z, w', h1, h2⟩ := appendZ_sound (P := P) (ty := type) hH (E s) (E x) h
          exact wp_of_run (by simp [execOp, resolve, invoke, Go.builtin, h1]) (hn z w' h2)
      · exact h.elim
    · split at h
      · rename_i d x t t' ha ht'
        have e1 : args = #[d, x] := by rw [← Array.toList_inj]; simpa using ha
        have e2 : argTypes = #[t, t'] := by rw [← Array.toList_inj]; simpa using ht'
        subst e1 e2
        obtain ⟨z, w', h1, h2⟩ := copy_sound (P := P) (sT := t') (ty := type) hH (E d) (E x) h
        exact wp_of_run (by simp [execOp, resolve, invoke, Go.builtin, h1]) (hn z w' h2)
      · exact h.elim
    · split at h
      · rename_i d t ha ht'
        have e1 : args = #[d] := by rw [← Array.toList_inj]; simpa using ha
        have e2 : argTypes = #[t] := by rw [← Array.toList_inj]; simpa using ht'
        subst e1 e2
        obtain ⟨w', h1, h2⟩ := clear_sound (P := P) (ty := type) hH (E d) h
        exact wp_of_run (by simp [execOp, resolve, invoke, Go.builtin, h1]) (hn undef w' h2)
      · exact h.elim
    · exact quiet h
  · exact quiet h
end
end Sx

set_option linter.all false
namespace Sx
open Go
def At (ν : Nu) (σ : St) (a : Act) (w : World) : Prop := relT ν σ.nx σ.tmps a.tmps ∧ a.defers = [] ∧ hpH ν σ.nx w σ.H
def Kp (asq : List Nat) (tm tm' : List R) : Prop := tm'.length = tm.length ∧ ∀ i, i ∉ asq → tm'.getD i .junk = tm.getD i .junk
def Lands (asq : List Nat) (ν : Nu) (σ : St) (w : World) (Q : St → Prop) (a' : Act) (w' : World) : Prop :=
  ∃ ν' σ', At ν' σ' a' w' ∧ Mv ν σ.nx σ.H w ν' σ'.nx σ'.H w' ∧ Kp asq σ.tmps σ'.tmps ∧ Q σ'
theorem Kp.refl (asq : List Nat) (tm : List R) : Kp asq tm tm := ⟨rfl, fun _ _ => rfl⟩
theorem Kp.trans {asq : List Nat} {t1 t2 t3 : List R} (h : Kp asq t1 t2) (k : Kp asq t2 t3) : Kp asq t1 t3 := ⟨k.1.trans h.1, fun i hi => (k.2 i hi).trans (h.2 i hi)⟩
theorem Kp.mono {asq bs : List Nat} {t1 t2 : List R} (h : Kp asq t1 t2) (hs : ∀ i ∈ asq, i ∈ bs) : Kp bs t1 t2 := ⟨h.1, fun i hi => h.2 i fun h => hi (hs i h)⟩
theorem Kp.set (asq : List Nat) (tm : List R) {d : Nat} (r : R) (h : d ∈ asq) : Kp asq tm (tm.set d r) := ⟨by simp, fun i hi => by
  have : i ≠ d := fun e => hi (e ▸ h)
  simp [List.getD_eq_getElem?_getD, List.getElem?_set, Ne.symm this]⟩
theorem Kp.put (asq : List Nat) (tm : List R) {d : Option Tmp} (r : R) (h : ∀ x, d = some x → x ∈ asq) : Kp asq tm (put tm d r) := by
  cases d with
  | none => exact Kp.refl _ _
  | some d => exact Kp.set _ _ _ (h d rfl)
def tch (ops : Array Oper) (o : Oper) : List Nat := o.dst.toList ++ (o.guard.bind fun g => dstOf ops g.1).toList
section
variable {P : Program} {T : FuncId → Option Con} {inl : FuncId → List V → Hp → Nat → (R → Hp → Nat → Prop) → Prop} {ν ν' : Nu} {N N' : Nat} {w w' : World} {H : Hp}
theorem Lands.mono {asq bs : List Nat} {σ : St} {Q Q' : St → Prop} {a : Act} (h : Lands asq ν σ w Q a w') (hs : ∀ i ∈ asq, i ∈ bs) (hq : ∀ σ, Q σ → Q' σ) : Lands bs ν σ w Q' a w' :=
  let ⟨ν', σ', h1, h2, h3, h4⟩ := h; ⟨ν', σ', h1, h2, h3.mono hs, hq _ h4⟩
theorem Lands.head {asq : List Nat} {σ σ1 : St} {ν1 : Nu} {w1 : World} {Q : St → Prop} {a : Act} (hH : hpH ν σ.nx w σ.H) (hm : Mv ν σ.nx σ.H w ν1 σ1.nx σ1.H w1) (hk : Kp asq σ.tmps σ1.tmps) (h : Lands asq ν1 σ1 w1 Q a w') : Lands asq ν σ w Q a w' :=
  let ⟨ν', σ', h1, h2, h3, h4⟩ := h; ⟨ν', σ', h1, hm.trans hH.st h2, hk.trans h3, h4⟩
theorem relT_setB {tm : List R} {ts : Array Value} (ht : relT ν N tm ts) {d : Nat} {c : Bool} (h : tm.getD d .junk = .b c) : relT ν N (tm.set d (.b c)) ts := by
  refine ⟨by simp [ht.1], fun i => ?_⟩
  have : (tm.set d (.b c)).getD i .junk = tm.getD i .junk := by
    by_cases hd : i = d
    · subst hd
      by_cases hi : i < tm.length
      · rw [h]
        simp [List.getD_eq_getElem?_getD, List.getElem?_set, hi]
      · simp [List.getD_eq_getElem?_getD, List.getElem?_set, hi]
    · simp [List.getD_eq_getElem?_getD, List.getElem?_set, Ne.symm hd]
  rw [this]
  exact ht.2 i
theorem relT_bool {tm : List R} {ts : Array Value} (ht : relT ν N tm ts) {d : Nat} {c : Bool} (h : tm.getD d .junk = .b c) : ts[d]? = some (.bool c) := by
  have h1 := ht.2 d
  rw [h] at h1
  obtain ⟨_, h1⟩ := h1
  have hd : d < ts.size := by
    rcases Nat.lt_or_ge d ts.size with hd | hd
    · exact hd
    · have : tm.getD d .junk = R.junk := by
        have hl := ht.1
        simp [List.getD_eq_getElem?_getD, List.getElem?_eq_none (show tm.length ≤ d by omega)]
      rw [h] at this
      cases this
  rw [Array.getElem?_eq_getElem hd]
  simp only [Array.getD_eq_getD_getElem?, Array.getElem?_eq_getElem hd, Option.getD_some] at h1
  rw [h1]
  rfl
theorem relT_unit {ops : Array Oper} {tm : List R} {ts : Array Value} {j d : Nat} (hd : dstOf ops j = some d) (ht : relT ν N tm ts) (h : tm.getD d .junk = .tup []) : yielded ops ts j = none := by
  have hd : (ops[j]?).bind (·.dst) = some d := hd
  have h1 := ht.2 d
  rw [h] at h1
  obtain ⟨vs, h2, h3⟩ := h1
  unfold yielded
  rw [hd]
  simp only [Array.getD_eq_getD_getElem?] at h2
  cases hv : ts[d]? with
  | none => simp [hv]
  | some v =>
    rw [hv] at h2
    have h2 : v = .tuple vs := h2
    simp [hv, h2]
theorem guardK_sound {ops : Array Oper} {o : Oper} {tm : List R} {ts : Array Value} {yes no : List R → Prop} (ht : relT ν N tm ts) (h : guardK ops o.guard tm yes no) :
    ∃ tm', relT ν N tm' ts ∧ Kp (tch ops o) tm tm' ∧ ((Region.wanted o (yielded ops ts) = true ∧ yes tm') ∨ (Region.wanted o (yielded ops ts) = false ∧ no tm')) := by
  unfold guardK at h
  split at h
  · rename_i hg
    exact ⟨tm, ht, Kp.refl _ _, .inl ⟨by simp [Region.wanted, hg], h⟩⟩
  · rename_i j want hg
    split at h
    · rename_i d hd
      split at h
      · rename_i c hc
        have hv := relT_bool ht hc
        have hy : yielded ops ts j = some c := by
          have hd : (ops[j]?).bind (·.dst) = some d := hd
          unfold yielded
          rw [hd]
          simp [hv]
        have hkp : ∀ r, Kp (tch ops o) tm (tm.set d r) := fun r => Kp.set _ _ _ (by simp [tch, hg, hd])
        have hw : Region.wanted o (yielded ops ts) = (c == want) := by simp [Region.wanted, hg, hy]
        refine ⟨tm.set d (.b c), relT_setB ht hc, hkp _, ?_⟩
        cases want <;> cases c <;> simp only [ifB] at h <;> rw [hw] <;> simp [h]
      · rename_i hc
        exact ⟨tm, ht, Kp.refl _ _, .inr ⟨by simp [Region.wanted, hg, relT_unit hd ht hc], h⟩⟩
      · exact h.elim
    · exact h.elim
theorem vcOps_sound (hT : ∀ f S, T f = some S → Good P f S) (hI : InlOK P inl) {ops : Array Oper} {asq : List Nat} {Q : Exit → Act → World → Prop} : ∀ {os : List Oper} {ν : Nu} {σ : St} {a : Act} {w : World} {K : St → Prop}, (∀ o ∈ os, ∀ i ∈ tch ops o, i ∈ asq) → At ν σ a w → vcOps P T inl ops os σ K →
    (∀ a' w', Lands asq ν σ w K a' w' → Q .normal a' w') → wpList P ops Q os a w
  | [], ν, σ, a, w, K, _, hA, h, hQ => hQ a w ⟨ν, σ, hA, Mv.stay _ _ _ _ _ (Nat.le_refl _), Kp.refl _ _, h⟩
  | o :: os, ν, σ, a, w, K, has, hA, h, hQ => by
    obtain ⟨ht, hd, hH⟩ := hA
    have h : guardK ops o.guard σ.tmps (fun tm => opK P T inl tm σ.H σ.nx o.op fun r H nx => vcOps P T inl ops os ⟨put tm o.dst r, H, nx⟩ K)
      (fun tm => vcOps P T inl ops os ⟨put tm o.dst .unit, σ.H, σ.nx⟩ K) := h
    obtain ⟨tm, ht', hk, hc⟩ := guardK_sound ht h
    have hao : ∀ i ∈ tch ops o, i ∈ asq := has o (by simp)
    have hdst : ∀ x, o.dst = some x → x ∈ asq := fun x hx => hao x (by simp [tch, hx])
    unfold wpList
    rcases hc with ⟨hw, hy⟩ | ⟨hw, hy⟩
    · rw [if_pos hw]
      refine .inl (opK_sound hT hI ht' hH hy fun v w1 hg => ?_)
      obtain ⟨ν1, N1, H1, r, hr, hH1, hm, hK⟩ := hg
      refine vcOps_sound hT hI (fun o' ho' => has o' (by simp [ho'])) (ν := ν1) (σ := ⟨put tm o.dst r, H1, N1⟩) ⟨relT_put (relT_mono hm.ag hm.le ht') o.dst hr, by cases hdd : o.dst <;> simp [Act.put, hd], hH1⟩ hK fun a' w' hl => ?_
      exact hQ a' w' (hl.head hH hm ((hk.mono hao).trans (Kp.put asq tm r hdst)))
    · rw [if_neg (by simp [hw])]
      refine vcOps_sound hT hI (fun o' ho' => has o' (by simp [ho'])) (ν := ν) (σ := ⟨put tm o.dst .unit, σ.H, σ.nx⟩) ⟨relT_put ht' o.dst relR_unit, by cases hdd : o.dst <;> simp [Act.put, hd], hH⟩ hy fun a' w' hl => ?_
      exact hQ a' w' (hl.head (σ1 := ⟨put tm o.dst .unit, σ.H, σ.nx⟩) hH (Mv.stay _ _ _ _ _ (Nat.le_refl _)) ((hk.mono hao).trans (Kp.put asq tm _ hdst)))
end
end Sx

set_option linter.all false
namespace Sx
open Go
section
variable {P : Program} {T : FuncId → Option Con} {inl : FuncId → List V → Hp → Nat → (R → Hp → Nat → Prop) → Prop} {tm tm' : List R} {H H' : Hp}
theorem map_ev {xs : Array Operand} (h : ∀ x ∈ xs, ev tm x = ev tm' x) : xs.toList.map (ev tm) = xs.toList.map (ev tm') := List.map_congr_left fun x hx => h x (by simpa using hx)
theorem map_parts {ps : Array (Nat × Operand)} (h : ∀ x ∈ (ps.toList.map (·.2)).toArray, ev tm x = ev tm' x) : (ps.toList.map fun q => (q.1, ev tm q.2)) = ps.toList.map fun q => (q.1, ev tm' q.2) :=
  List.map_congr_left fun q hq => by rw [h q.2 (by simp; exact ⟨q.1, by simpa using hq⟩)]
theorem map_opt {x : Option Operand} (h : ∀ y ∈ x.toArray, ev tm y = ev tm' y) : x.map (ev tm) = x.map (ev tm') := by
  cases x with
  | none => rfl
  | some y => simp [h y (by simp)]
theorem fl_congr {op : Op} (h : ∀ x ∈ op.operands, ev tm x = ev tm' x) : fl P tm H op = fl P tm' H op := by
  cases op <;> simp only [Op.operands] at h <;> simp only [fl]
  case build t ps => rw [map_parts h]
  case makeFunc f first captured =>
    cases f <;> simp only [fl]
    rw [map_ev fun x hx => h x (by simp [hx])]
  case slice t x l hi m =>
    cases m with
    | some m =>
      cases l with
      | some l => rfl
      | none =>
        cases hi with
        | none => rfl
        | some hi => simp only; rw [h x (by simp), h hi (by simp), h m (by simp)]
    | none => simp only [fl]; rw [h x (by simp), map_opt fun y hy => h y (by simp at hy ⊢; exact .inr (.inl hy)), map_opt fun y hy => h y (by simp at hy ⊢; exact .inr (.inr hy))]
  case call c =>
    obtain ⟨callee, args, argTypes⟩ := c
    simp only [Call.operands] at h
    have ha : ∀ x ∈ args, ev tm x = ev tm' x := fun x hx => h x (by simp [hx])
    cases callee with
    | value f => rfl
    | invoke r m => rfl
    | builtin b =>
      cases b <;> first | rfl | skip
      · simp only
        cases hl : args.toList with
        | nil => rfl
        | cons x xs =>
          cases xs with
          | cons y ys => rfl
          | nil =>
            cases argTypes.toList with
            | nil => rfl
            | cons t ts => simp only; rw [ha x (by rw [← Array.mem_toList_iff, hl]; simp)]
      · simp only
        cases hl : args.toList with
        | nil => rfl
        | cons x xs =>
          cases xs with
          | cons y ys => rfl
          | nil =>
            cases argTypes.toList with
            | nil => rfl
            | cons t ts => simp only; rw [ha x (by rw [← Array.mem_toList_iff, hl]; simp)]
      · simp only; rw [map_ev ha]
      · simp only; rw [map_ev ha]
  all_goals (first | rfl | (simp_all; done))
theorem opK_congr {op : Op} {nx : Nat} {K : R → Hp → Nat → Prop} (h : ∀ x ∈ op.operands, ev tm x = ev tm' x) : opK P T inl tm H nx op K = opK P T inl tm' H nx op K := by
  have hf := fl_congr (P := P) (H := H) h
  cases op <;> simp only [opK]
  case call c =>
    obtain ⟨callee, args, argTypes⟩ := c
    simp only [Op.operands, Call.operands] at h
    have ha : ∀ x ∈ args, ev tm x = ev tm' x := fun x hx => h x (by simp [hx])
    have hl : ∀ x xs, args.toList = x :: xs → ev tm x = ev tm' x := fun x xs e => ha x (by rw [← Array.mem_toList_iff, e]; simp)
    have hl2 : ∀ x y xs, args.toList = x :: y :: xs → ev tm y = ev tm' y := fun x y xs e => ha y (by rw [← Array.mem_toList_iff, e]; simp)
    cases callee with
    | value f => simp only; rw [map_ev ha, h f (by simp)]
    | invoke r m => simp only; rw [hf]
    | builtin b =>
      cases b <;> simp only <;> first | rw [hf] | skip
      all_goals
        split <;> first | rfl | skip
        rename_i e1 e2
        first | rw [hl _ _ e1, hl2 _ _ _ e1] | rw [hl _ _ e1]
  case buildSlice t n ps =>
    simp only [Op.operands] at h
    rw [map_parts h]
  case convert s d x => rw [h x (by simp [Op.operands])]
  case binOp op t x y q => rw [h x (by simp [Op.operands]), hf]
  case store t a x => rw [h a (by simp [Op.operands]), h x (by simp [Op.operands])]
  case makeSlice t a x => rw [h a (by simp [Op.operands]), h x (by simp [Op.operands])]
  case box t x => rw [h x (by simp [Op.operands])]
  all_goals (first | rfl | (rw [hf]; done))
theorem content_heap {a : A} {q : Bool × (ks : List Kd) × List (Tup ks)} (hk : ∀ l o, heapOf.tgt' a = some l → hget H l = some o → hget H' l = some o) (h : content H a = some q) : content H' a = some q := by
  cases a <;> simp only [content] at h ⊢ <;> first | cases h | skip
  all_goals
    split at h
    · rename_i hg
      rw [hk _ _ rfl hg]
      exact h
    · cases h
theorem bytesOf_heap {a : A} {xs : List Int} (hk : ∀ l o, heapOf.tgt' a = some l → hget H l = some o → hget H' l = some o) (h : bytesOf H a = some xs) : bytesOf H' a = some xs := by
  unfold bytesOf at h ⊢
  split at h
  · exact h
  · exact h
  · split at h
    · rename_i hc
      cases h
      rw [content_heap hk hc]
    · cases h
theorem fl_heap {op : Op} {r : R} (h : (fl P tm H op).Out r) (hk : ∀ l o, heapOf tm op = some l → hget H l = some o → hget H' l = some o) : (fl P tm H' op).Out r := by
  cases op <;> simp only [fl] at h ⊢ <;> first | exact h | skip
  case makeFunc f first captured => cases f <;> exact h
  case slice t x l hi m =>
    cases m with
    | none => exact h
    | some m => cases l <;> cases hi <;> exact h
  case load t x =>
    simp only [heapOf] at hk
    generalize ev tm x = v at h hk ⊢
    unfold load at h ⊢
    split at h
    · split at h
      · rename_i hg
        simp only at hk ⊢
        rw [hk _ _ rfl hg]
        exact h
      · exact h.elim
    · split at h
      · rename_i hg
        simp only at hk ⊢
        rw [hk _ _ rfl hg]
        exact h
      · rename_i hg
        simp only at hk ⊢
        rw [hk _ _ rfl hg]
        exact h
      · exact h.elim
    · exact h.elim
  case convert s d x =>
    simp only [heapOf] at hk
    generalize ev tm x = v at h hk ⊢
    unfold convert at h ⊢
    split at h
    · exact h
    · exact h
    · split at h
      · rename_i hu hb
        simp only at hk ⊢
        rw [hu, bytesOf_heap hk hb]
        exact h
      · exact h.elim
    · exact h.elim
end
end Sx
end
