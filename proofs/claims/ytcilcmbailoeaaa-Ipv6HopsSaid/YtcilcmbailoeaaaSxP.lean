/- A symbolic walk: a formal heap that stands for a part of an actual one. -/
import Derived.Test.YtcilcmbailoeaaaSxO
set_option linter.all false
namespace Sx
open Go
section
variable {ν νf : Nu} {N : Nat} {w : World} {H : Hp} {r : Rn} {K : Rn → Prop}
/-- A formal label and its content, against the actual heap. -/
def Tied (ν : Nu) (w : World) (H : Hp) (r : Rn) (νf : Nu) (l : Nat) (o : Ob) : Prop := match o with
  | .cells as => ∃ l' bs vs T, rget r l = some (.p l' 0) ∧ hget H l' = some (.cells bs) ∧ w.heap[ν.blk l']? = some (.cells vs T (0, 0)) ∧ FA r νf fun ν2 M => relAs ν2 M as vs.toList
  | .abs a => ∃ l', rget r l = some (.p l' 0) ∧ hget H l' = some (.abs a)
  | .row own ks xs => (∃ l' n own', rget r l = some (.f l' n) ∧ hget H l' = some (.row own' ks xs) ∧ (own = true → own' = true)) ∨
      (own = false ∧ ∃ l' z a b own' xs', rget r l = some (.sb l' z a b) ∧ hget H l' = some (.row own' ks xs') ∧ z = ks.length ∧ (xs'.take b).drop a = xs) ∨
      (rget r l = some .ns ∧ xs = [] ∧ 0 < ks.length) ∨ (own = false ∧ rget r l = some .z ∧ xs = [] ∧ 0 < ks.length) ∨
      (own = true ∧ ∃ l' z b xs', rget r l = some (.sb l' z 0 b) ∧ hget H l' = some (.row true ks xs') ∧ z = ks.length ∧ xs'.take b = xs)
  | .gone => True
theorem Tied.ext {l : Nat} {o : Ob} {r' : Rn} {νf' : Nu} (h : Tied ν w H r νf l o) (e : RExt r νf r' νf') : Tied ν w H r' νf' l o := by
  cases o with
  | cells as => obtain ⟨l', bs, vs, T, h1, h2, h3, h4⟩ := h; exact ⟨l', bs, vs, T, e.mono _ _ h1, h2, h3, h4.ext e⟩
  | abs a => obtain ⟨l', h1, h2⟩ := h; exact ⟨l', e.mono _ _ h1, h2⟩
  | row own ks xs =>
    rcases h with ⟨l', n, own', h1, h2⟩ | ⟨h0, l', z, a, b, own', xs', h1, h2⟩ | ⟨h1, h2⟩ | ⟨h0, h1, h2⟩ | ⟨h0, l', z, b, xs', h1, h2⟩
    · exact .inl ⟨l', n, own', e.mono _ _ h1, h2⟩
    · exact .inr (.inl ⟨h0, l', z, a, b, own', xs', e.mono _ _ h1, h2⟩)
    · exact .inr (.inr (.inl ⟨e.mono _ _ h1, h2⟩))
    · exact .inr (.inr (.inr (.inl ⟨h0, e.mono _ _ h1, h2⟩)))
    · exact .inr (.inr (.inr (.inr ⟨h0, l', z, b, xs', e.mono _ _ h1, h2⟩)))
  | gone => trivial
theorem mtHp_sound (hH : hpH ν N w H) : ∀ {fs : List (Nat × Ob)} {r : Rn} {νf : Nu}, rnOK ν N νf r → mtHp r H fs K → ∃ r' νf', K r' ∧ rnOK ν N νf' r' ∧ RExt r νf r' νf' ∧ ∀ q ∈ fs, Tied ν w H r' νf' q.1 q.2
  | [], r, νf, hr, h => ⟨r, νf, h, hr, RExt.refl _ _, by simp⟩
  | (l, o) :: fs, r, νf, hr, h => by
    have simple : ∀ {K' : Prop}, (K' → mtHp r H fs K) → K' → Tied ν w H r νf l o → ∃ r' νf', K r' ∧ rnOK ν N νf' r' ∧ RExt r νf r' νf' ∧ ∀ q ∈ (l, o) :: fs, Tied ν w H r' νf' q.1 q.2 := by
      intro K' hk k ht
      obtain ⟨r2, ν2, h2, hr2, e2, t2⟩ := mtHp_sound hH hr (hk k)
      exact ⟨r2, ν2, h2, hr2, e2, fun q hq => by
        rcases List.mem_cons.1 hq with rfl | hq
        · exact ht.ext e2
        · exact t2 q hq⟩
    unfold mtHp at h
    split at h
    · rename_i as l' o' hg
      have h0 := (hr l _ hg).1
      subst h0
      split at h
      · rename_i bs hb
        obtain ⟨_, vs, T, hv1, hv2⟩ := (hH.ob _ _ hb).2
        obtain ⟨r1, ν1, h1, hr1, e1, f1⟩ := mtAs_sound hr hv2 h
        obtain ⟨r2, ν2, h2, hr2, e2, t2⟩ := mtHp_sound hH hr1 h1
        refine ⟨r2, ν2, h2, hr2, e1.trans e2, fun q hq => ?_⟩
        rcases List.mem_cons.1 hq with rfl | hq
        · exact ⟨l', bs, vs, T, (e1.trans e2).mono _ _ hg, hb, hv1, f1.ext e2⟩
        · exact t2 q hq
      · exact h.elim
    · rename_i a l' o' hg
      have h0 := (hr l _ hg).1
      subst h0
      split at h
      · rename_i b hb
        obtain ⟨rfl, h⟩ := h
        exact simple id h ⟨l', hg, hb⟩
      · exact h.elim
    · rename_i own ks xs l' n hg
      split at h
      · rename_i own' ks' xs' hb
        split at h
        · rename_i ys ho hc
          obtain ⟨rfl, h⟩ := h
          obtain ⟨e, e2⟩ := castRow_some hc
          subst e
          subst e2
          exact simple id h (.inl ⟨l', n, own', hg, hb, fun e => by subst e; simpa using ho⟩)
        · exact h.elim
      · exact h.elim
    · rename_i own ks xs l' z a b hg
      cases own with
      | true =>
        simp only at h
        split at h
        · rename_i ks' xs' hb
          split at h
          · rename_i ys hz hc
            simp only [Bool.and_eq_true] at hz
            have ha := Nat.eq_of_beq_eq_true hz.2
            subst ha
            obtain ⟨rfl, h⟩ := h
            obtain ⟨e, e2⟩ := castRow_some hc
            subst e
            subst e2
            exact simple id h (.inr (.inr (.inr (.inr ⟨rfl, l', z, b, xs', hg, hb, Nat.eq_of_beq_eq_true hz.1, rfl⟩))))
          · exact h.elim
        · exact h.elim
      | false =>
        simp only at h
        split at h
        · rename_i own' ks' xs' hb
          split at h
          · rename_i ys hz hc
            obtain ⟨rfl, h⟩ := h
            obtain ⟨e, e2⟩ := castRow_some hc
            subst e
            subst e2
            exact simple id h (.inr (.inl ⟨rfl, l', z, a, b, own', xs', hg, hb, Nat.eq_of_beq_eq_true hz, rfl⟩))
          · exact h.elim
        · exact h.elim
    · rename_i ks xs hg
      split at h
      · exact h.elim
      · rename_i n hn
        obtain ⟨rfl, h⟩ := h
        exact simple id h (.inr (.inr (.inr (.inl ⟨rfl, hg, rfl, by omega⟩))))
    · rename_i own ks xs hg
      split at h
      · exact h.elim
      · rename_i n hn
        obtain ⟨rfl, h⟩ := h
        exact simple id h (.inr (.inr (.inl ⟨hg, rfl, by omega⟩)))
    · exact simple id h trivial
    · exact h.elim
theorem hget_heap0 (hs : List Ob) (l : Nat) : hget (heap0 hs) l = hs[l]? := by
  have : ∀ (hs : List Ob) (n l : Nat), hget ((enum n hs).map fun q => (q.1, 0, q.2)) l = if n ≤ l then hs[l - n]? else none := by
    intro hs
    induction hs with
    | nil => intro n l; simp [enum, hget]
    | cons o os ih =>
      intro n l
      simp only [enum, List.map_cons, hget_cons, ih]
      by_cases h1 : n = l
      · subst h1; simp
      · by_cases h2 : n ≤ l
        · have h3 : n + 1 ≤ l := by omega
          obtain ⟨k, hk⟩ : ∃ k, l - n = k + 1 := ⟨l - n - 1, by omega⟩
          simp [h1, h2, h3, hk, show l - (n + 1) = k by omega]
        · have h3 : ¬ n + 1 ≤ l := by omega
          simp [h1, h2, h3]
  exact (this hs 0 l).trans (by simp)
theorem hst_heap0 (hs : List Ob) (l : Nat) : hst (heap0 hs) l = 0 := by
  have : ∀ (hs : List Ob) (n l : Nat), hst ((enum n hs).map fun q => (q.1, 0, q.2)) l = 0 := by
    intro hs
    induction hs with
    | nil => intro n l; rfl
    | cons o os ih => intro n l; simp only [enum, List.map_cons, hst_cons, ih]; split <;> rfl
  exact this hs 0 l
theorem enum_mem {α : Type} {a : α} : ∀ {xs : List α} {n l : Nat}, (l, a) ∈ enum n xs ↔ n ≤ l ∧ xs[l - n]? = some a
  | [], n, l => by simp [enum]
  | x :: xs, n, l => by
    simp only [enum, List.mem_cons, enum_mem, Prod.mk.injEq]
    constructor
    · rintro (⟨rfl, rfl⟩ | ⟨h1, h2⟩)
      · simp
      · obtain ⟨k, hk⟩ : ∃ k, l - n = k + 1 := ⟨l - n - 1, by omega⟩
        exact ⟨by omega, by rw [hk, List.getElem?_cons_succ, show k = l - (n + 1) by omega]; exact h2⟩
    · rintro ⟨h1, h2⟩
      by_cases h : n = l
      · subst h
        simp at h2
        exact .inl ⟨rfl, h2.symm⟩
      · obtain ⟨k, hk⟩ : ∃ k, l - n = k + 1 := ⟨l - n - 1, by omega⟩
        rw [hk, List.getElem?_cons_succ] at h2
        exact .inr ⟨by omega, by rw [show l - (n + 1) = k by omega]; exact h2⟩
/-- The footprints of a formal heap. -/
def fpF (ν νf : Nu) (r : Rn) (l b : Nat) : Ob → Prop
  | .cells _ => b = νf.blk l
  | .row true _ _ => (νf.sv l).ownBlock = some b
  | .row false _ xs => (νf.sv l).ownBlock = some b ∧ xs ≠ []
  | .abs _ => ∃ l', rget r l = some (.p l' 0) ∧ ν.fp l' b
  | .gone => False
def closeF (ν νf : Nu) (r : Rn) (hs : List Ob) : Nu := ⟨νf.blk, νf.sv, fun l b => match hs[l]? with
  | some o => fpF ν νf r l b o
  | none => False⟩
/-- What a formal label's blocks are. -/
theorem tied_fp (hH : hpH ν N w H) (hr : rnOK ν N νf r) {l : Nat} {o : Ob} (h : Tied ν w H r νf l o) {b : Nat} (hb : fpF ν νf r l b o) : ∃ m om, (rget r l).bind tgt = some m ∧ hget H m = some om ∧ fpO ν m om b ∧ (ownOb o = true → ownOb om = true) := by
  cases o with
  | cells as =>
    obtain ⟨l', bs, vs, T, h1, h2, h3, h4⟩ := h
    obtain ⟨_, _, h5⟩ := hr l _ h1
    refine ⟨l', _, by rw [h1]; rfl, h2, ?_, fun _ => rfl⟩
    exact ((hH.ob _ _ h2).2.1 b).2 (by rw [← h5]; exact hb)
  | abs a =>
    obtain ⟨l', h1, h2⟩ := h
    obtain ⟨l2, h3, h4⟩ := hb
    rw [h1] at h3
    cases h3
    exact ⟨l', _, by rw [h1]; rfl, h2, h4, fun _ => rfl⟩
  | row own ks xs =>
    rcases h with ⟨l', n, own', h1, h2, h3⟩ | ⟨rfl, l', z, x, y, own', xs', h1, h2, h3, h4⟩ | ⟨h1, h2, h3⟩ | ⟨rfl, h1, h2, h3⟩ | ⟨rfl, l', z, y, xs', h1, h2, h3, h4⟩
    · obtain ⟨_, hsv, _⟩ := hr l _ h1
      refine ⟨l', _, by rw [h1]; rfl, h2, ?_, fun e => h3 e⟩
      have ho := (hH.ob _ _ h2).2
      cases own' with
      | true =>
        refine (ho.2.2.1 b).2 ?_
        rw [← hsv]
        cases own with
        | true => exact hb
        | false => exact hb.1
      | false =>
        cases own with
        | true => exact absurd (h3 rfl) (by simp)
        | false => exact (ho.2.2.1 b).2 ⟨by rw [← hsv]; exact hb.1, hb.2⟩
    · obtain ⟨hb1, hb2⟩ := hb
      obtain ⟨_, base, m, cap, base', hsv, hab, hbn, hok, hv, hba, hok'⟩ := hr l _ h1
      refine ⟨l', _, by rw [h1]; rfl, h2, ?_, nofun⟩
      obtain ⟨_, _, base2, cap2, hsv2, _⟩ := row_cells (hH.ob _ _ h2).2
      rw [hsv] at hsv2
      obtain ⟨_, hm, _⟩ := slice_inj hsv2
      subst hm
      have hlt : x < y := by
        rcases Nat.lt_or_ge x y with h | h
        · exact h
        · exact absurd (by rw [← h4]; exact List.eq_nil_of_length_eq_zero (by rw [List.length_drop, List.length_take]; omega)) hb2
      have hc := hok.1.1
      rw [hv, hba (by omega)] at hb1
      have hob : (ν.sv l').ownBlock = some b := by
        rw [hsv]
        cases base with
        | none => simp [addA, Value.ownBlock] at hb1
        | some q => simpa [addA, Value.ownBlock] using hb1
      have hne : xs' ≠ [] := by rintro rfl; simp at hbn; omega
      have ho := (hH.ob _ _ h2).2
      cases own' with
      | true => exact (ho.2.2.1 b).2 hob
      | false => exact (ho.2.2.1 b).2 ⟨hob, hne⟩
    · have h5 := hr l _ h1
      cases own with
      | true => simp only [fpF] at hb; rw [h5] at hb; cases hb
      | false => simp only [fpF] at hb; rw [h5] at hb; exact absurd hb.1 (by simp [Value.ownBlock])
    · exact absurd h2 hb.2
    · have hrel := hr l _ h1
      have ho := (hH.ob _ _ h2).2
      obtain ⟨_, _, hfp, e0, hown⟩ := ho
      subst h3
      obtain ⟨_, _, h5⟩ := own_cut hown hrel
      refine ⟨l', _, by rw [h1]; rfl, h2, ?_, fun _ => rfl⟩
      exact (hfp b).2 (by rw [← h5]; exact hb)
  | gone => exact hb.elim
theorem apartR_ne {r : Rn} : ∀ {fs : List (Nat × Ob)}, apartR r fs = true → ∀ q q', q ∈ fs → q' ∈ fs → q.1 ≠ q'.1 → ∀ t, (rget r q.1).bind tgt = some t → (rget r q'.1).bind tgt = some t → ownOb q.2 = false ∧ ownOb q'.2 = false
  | [], _, _, _, h, _, _, _, _, _ => by simp at h
  | (l, o) :: fs, h, q, q', hq, hq', hne, t, ht, ht' => by
    simp only [apartR, Bool.and_eq_true] at h
    have key : ∀ p : Nat × Ob, p ∈ fs → (rget r l).bind tgt = some t → (rget r p.1).bind tgt = some t → ownOb o = false ∧ ownOb p.2 = false := by
      intro p hp h1 h2
      have h3 := h.1
      rw [h1] at h3
      have h4 := (List.all_eq_true.1 h3) p hp
      rw [h2] at h4
      simpa using h4
    rcases List.mem_cons.1 hq with rfl | hq
    · rcases List.mem_cons.1 hq' with rfl | hq'
      · exact absurd rfl hne
      · exact key q' hq' ht ht'
    · rcases List.mem_cons.1 hq' with rfl | hq'
      · exact (key q hq ht' ht).symm
      · exact apartR_ne h.2 q q' hq hq' hne t ht ht'
theorem ext_closeF (hs : List Ob) : RExt r νf r (closeF ν νf r hs) := ⟨fun _ _ h => h, fun _ _ _ => ⟨rfl, rfl⟩⟩
theorem closeF_fp {hs : List Ob} {l : Nat} {o : Ob} (h : hs[l]? = some o) (b : Nat) : (closeF ν νf r hs).fp l b = fpF ν νf r l b o := by simp [closeF, h]
/-- A formal label's content holds of the actual world. -/
theorem close_ob (hH : hpH ν N w H) (hr : rnOK ν N νf r) {ν' : Nu} {M l : Nat} {o : Ob} (hti : Tied ν w H r νf l o) (ex : RExt r νf r ν') (hM : ∀ l a, rget r l = some a → l < M) (hfp : ∀ b, ν'.fp l b = fpF ν νf r l b o) : obH ν' M w l o := by
  cases o with
  | cells as =>
    obtain ⟨l', bs, vs, T, h1, h2, h3, h4⟩ := hti
    obtain ⟨_, _, h5⟩ := hr l _ h1
    have hb := (ex.same l _ h1).1
    refine ⟨fun b => by rw [hfp, hb]; rfl, vs, T, ?_, h4 r _ _ ex hM⟩
    rw [hb, h5]
    exact h3
  | abs a =>
    obtain ⟨l', h1, h2⟩ := hti
    obtain ⟨_, _, h5⟩ := hr l _ h1
    have hx := (hH.ob _ _ h2).2
    have hb := (ex.same l _ h1).1
    have hfe : ν'.fp l = ν.fp l' := by
      funext b
      rw [hfp]
      apply propext
      constructor
      · rintro ⟨l2, h3, h4⟩
        rw [h1] at h3
        cases h3
        exact h4
      · exact fun h => ⟨l', h1, h⟩
    refine ⟨fun b hb' => hx.1 b (by rw [← hfe]; exact hb'), fun w' hw' => ?_⟩
    rw [hfe, hb, h5]
    exact hx.2 w' fun b hb' => hw' b (by rw [hfe]; exact hb')
  | row own ks xs =>
    rcases hti with ⟨l', n, own', h1, h2, h3⟩ | ⟨rfl, l', z, x, y, own', xs', h1, h2, h3, h4⟩ | ⟨h1, h2, h3⟩ | ⟨rfl, h1, h2, h3⟩ | ⟨rfl, l', z, y, xs', h1, h2, h3, h4⟩
    · obtain ⟨_, hsv, _⟩ := hr l _ h1
      have hs := (ex.same l _ h1).2
      have hx := (hH.ob _ _ h2).2
      cases own with
      | true =>
        have h3 := h3 rfl
        subst h3
        obtain ⟨p1, p2, p3, e, p4⟩ := hx
        exact ⟨p1, p2, fun b => by rw [hfp, hs]; rfl, e, by rw [hs, hsv]; exact p4⟩
      | false =>
        obtain ⟨p1, p2, base, cap, p3, p4, p5⟩ := row_cells hx
        exact ⟨p1, p2, fun b => by rw [hfp, hs]; rfl, base, cap, by rw [hs, hsv]; exact p3, p4, p5⟩
    · have hrel := hr l _ h1
      have hs := (ex.same l _ h1).2
      subst h3 h4
      obtain ⟨p1, p2, base, cap, p3, p4, p5⟩ := content_sound (own := own') (ks := ks) (xs := (xs'.take y).drop x) hH hrel (by simp [content, h2])
      exact ⟨p1, p2, fun b => by rw [hfp, hs]; rfl, base, cap, by rw [hs]; exact p3, p4, p5⟩
    · have h5 : νf.sv l = .slice none 0 0 := hr l _ h1
      have hs := (ex.same l _ h1).2
      subst h2
      cases own with
      | true => exact ⟨h3, by simp [wfT], fun b => by rw [hfp, hs]; rfl, 0, by rw [hs, h5]; exact World.ownsRow_nil w 0 0 ks.length⟩
      | false => exact ⟨h3, by simp [wfT], fun b => by rw [hfp, hs]; rfl, none, 0, by rw [hs]; exact h5, ⟨⟨Nat.le_refl _, Nat.zero_le _⟩, nofun, fun _ => rfl⟩, fun j v hv => by simp [flat] at hv⟩
    · obtain ⟨base, h5, hsp⟩ := hr l _ h1
      have hs := (ex.same l _ h1).2
      subst h2
      exact ⟨h3, by simp [wfT], fun b => by rw [hfp, hs]; rfl, base, 0, by rw [hs]; exact h5, ⟨⟨Nat.le_refl _, Nat.zero_le _⟩, hsp, fun _ => rfl⟩, fun j v hv => by simp [flat] at hv⟩
    · have hrel := hr l _ h1
      have hs := (ex.same l _ h1).2
      obtain ⟨p1, p2, p3, e, p4⟩ := (hH.ob _ _ h2).2
      subst h3 h4
      obtain ⟨q1, q2, q3⟩ := own_cut p4 hrel
      exact ⟨p1, fun x hx => p2 x (List.mem_of_mem_take hx), fun b => by rw [hfp, hs]; rfl, e, by rw [hs, List.length_take, Nat.min_eq_left q2]; exact q1⟩
  | gone => trivial
theorem closeF_ok (hH : hpH ν N w H) (hr : rnOK ν N νf r) {hs : List Ob} (ht : ∀ l o, hs[l]? = some o → Tied ν w H r νf l o) (hap : apartR r (enum 0 hs) = true) (hb : ∀ l a, rget r l = some a → l < hs.length) :
    hpH (closeF ν νf r hs) hs.length w (heap0 hs) := by
  have lt : ∀ l o, hs[l]? = some o → l < hs.length := fun l o h => (List.getElem?_eq_some_iff.1 h).1
  refine ⟨fun l o hg => ?_, fun l o hg => ?_, fun l l' o o' hne hg hg' hown b hb1 hb2 => ?_⟩
  · rw [hget_heap0] at hg
    refine ⟨lt l o hg, ?_⟩
    have hti := ht l o hg
    have hfp := closeF_fp (ν := ν) (νf := νf) (r := r) hg
    exact close_ob hH hr hti (ext_closeF hs) hb hfp
  · rw [hst_heap0]
    rw [hget_heap0] at hg
    have := lt l o hg
    omega
  · rw [hget_heap0] at hg hg'
    have c1 : fpF ν νf r l b o := by
      have := closeF_fp (ν := ν) (νf := νf) (r := r) hg b
      rw [← this]
      cases o <;> first | exact hb1 | exact hb1.elim
    have c2 : fpF ν νf r l' b o' := by
      have := closeF_fp (ν := ν) (νf := νf) (r := r) hg' b
      rw [← this]
      cases o' <;> first | exact hb2 | exact hb2.elim
    obtain ⟨m, om, q1, q2, q3, q4⟩ := tied_fp hH hr (ht l o hg) c1
    obtain ⟨m', om', q1', q2', q3', q4'⟩ := tied_fp hH hr (ht l' o' hg') c2
    by_cases hm : m = m'
    · subst hm
      obtain ⟨a1, a2⟩ := apartR_ne hap (l, o) (l', o') (enum_mem.2 ⟨Nat.zero_le _, hg⟩) (enum_mem.2 ⟨Nat.zero_le _, hg'⟩) hne m q1 q1'
      simp only at a1 a2
      rw [a1, a2] at hown
      simp at hown
    · exact hH.ap m m' om om' hm q2 q2' (hown.imp q4 q4') b q3 q3'
end
end Sx
