import Derived.Test.YthnhbnakpmkppaaGreatMgTableGoes16
section
set_option linter.all false
set_option maxRecDepth 10000
namespace Sp
open Go Go.Proofs Sx Go.Proofs.YthnhbnakpmkppaaGreat.Ma
def mfold (r : Nat) (g : Nat → Int) : Int := (List.range r).foldl (fun n k => min n (g k)) 255
theorem mfold_succ (r : Nat) (g : Nat → Int) : mfold (r + 1) g = min (mfold r g) (g r) := fold_range _ _ _
theorem mfold_top (g : Nat → Int) : ∀ r, mfold r g ≤ 255
  | 0 => Int.le_refl _
  | r + 1 => by rw [mfold_succ]; have := mfold_top g r; omega
theorem mfold_le (g : Nat → Int) : ∀ {r k : Nat}, k < r → mfold r g ≤ g k
  | r + 1, k, h => by
    rw [mfold_succ]
    by_cases e : k = r
    · subst e; omega
    · have := mfold_le g (r := r) (k := k) (by omega); omega
theorem le_mfold {g : Nat → Int} {a : Int} (h : a ≤ 255) : ∀ {r : Nat}, (∀ k, k < r → a ≤ g k) → a ≤ mfold r g
  | 0, _ => h
  | r + 1, hg => by
    rw [mfold_succ]
    have := le_mfold (g := g) h (r := r) fun k hk => hg k (by omega)
    have := hg r (by omega)
    omega
theorem mfold_is (g : Nat → Int) : ∀ r, mfold r g = 255 ∨ ∃ k, k < r ∧ mfold r g = g k
  | 0 => .inl rfl
  | r + 1 => by
    rw [mfold_succ]
    by_cases h : mfold r g ≤ g r
    · rw [show min (mfold r g) (g r) = mfold r g by omega]
      rcases mfold_is g r with h | ⟨k, h1, h2⟩
      · exact .inl h
      · exact .inr ⟨k, by omega, h2⟩
    · exact .inr ⟨r, by omega, by omega⟩
def cellK (s : Sk) (p : Pf) (k : Nat) : Int := s.1.getD (posK s p k) 0
theorem countK_eq {s : Sk} {p : Pf} (hp : saneP p = true) : countK s p = mfold (rowsK s) (cellK s p) := by
  unfold countK
  rw [hp, if_pos rfl]
  rfl
theorem countK_not {s : Sk} {p : Pf} (hp : saneP p = false) : countK s p = 0 := by
  unfold countK
  rw [hp, if_neg (by decide)]
theorem posK_same {s s' : Sk} (h : s'.2 = s.2) (p : Pf) (k : Nat) : posK s' p k = posK s p k := by
  unfold posK
  rw [h]
theorem rowsK_same {s s' : Sk} (h : s'.2 = s.2) (hl : s'.1.length = s.1.length) : rowsK s' = rowsK s := by
  unfold rowsK
  rw [h, hl]
theorem addK_w (s : Sk) (p : Pf) : (addK s p).2 = s.2 := by unfold addK; split <;> rfl
theorem addK_eq {s : Sk} {p : Pf} (hp : saneP p = true) : addK s p = (addTo s p (rowsK s), s.2) := by
  unfold addK
  rw [hp, if_pos rfl]
  rfl
theorem addK_not {s : Sk} {p : Pf} (hp : saneP p = false) : addK s p = s := by
  unfold addK
  rw [hp, if_neg (by decide)]
theorem addK_len {s : Sk} (h : okK s) (p : Pf) : (addK s p).1.length = s.1.length := by
  cases hp : saneP p with
  | true => rw [addK_eq hp]; exact (addTo_ok h p _).1
  | false => rw [addK_not hp]
theorem rowsK_add {s : Sk} (h : okK s) (p : Pf) : rowsK (addK s p) = rowsK s := rowsK_same (addK_w s p) (addK_len h p)
theorem decK_rows (s : Sk) : rowsK (decK s) = rowsK s := rowsK_same rfl (List.length_map ..)
theorem pos_ne {s : Sk} (h : okK s) {k j : Nat} (hk : k < rowsK s) (hj : j < rowsK s) (hne : k ≠ j) (p q : Pf) : posK s p k ≠ posK s q j := by
  obtain ⟨_, _, a3, _, _, a6⟩ := h.pos hk p
  obtain ⟨_, _, b3, _, _, b6⟩ := h.pos hj q
  have m1 := Int.emod_lt_of_pos (hashP k p) (show 0 < s.2 by have := h.w; omega)
  have m2 := Int.emod_lt_of_pos (hashP j q) (show 0 < s.2 by have := h.w; omega)
  intro e
  have e : (k : Int) * s.2 + hashP k p % s.2 = j * s.2 + hashP j q % s.2 := by omega
  rcases Nat.lt_or_gt_of_ne hne with h1 | h1
  · have : ((k : Int) + 1) * s.2 ≤ j * s.2 := Int.mul_le_mul_of_nonneg_right (by omega) (by have := h.w; omega)
    rw [Int.add_mul, Int.one_mul] at this
    omega
  · have : ((j : Int) + 1) * s.2 ≤ k * s.2 := Int.mul_le_mul_of_nonneg_right (by omega) (by have := h.w; omega)
    rw [Int.add_mul, Int.one_mul] at this
    omega
theorem incK_get {l : List Int} {i j : Nat} (hi : i < l.length) : (incK l i).getD j 0 = if i = j then min 255 (l.getD j 0 + 1) else l.getD j 0 := by
  unfold incK
  rw [List.getD_eq_getElem?_getD, List.getElem?_set]
  by_cases h : i = j
  · subst h
    rw [if_pos rfl, if_pos hi, if_pos rfl]
    rfl
  · rw [if_neg h, if_neg h, ← List.getD_eq_getElem?_getD]
theorem addTo_get {s : Sk} (h : okK s) (q p : Pf) {k : Nat} (hk : k < rowsK s) : ∀ n, n ≤ rowsK s → (addTo s q n).getD (posK s p k) 0 = if k < n ∧ posK s q k = posK s p k then min 255 (cellK s p k + 1) else cellK s p k
  | 0, _ => by rw [if_neg (by omega)]; rfl
  | n + 1, hn => by
    have ih := addTo_get h q p hk n (by omega)
    have hlen := (addTo_ok h q n).1
    obtain ⟨_, _, _, _, a5, a6⟩ := h.pos (k := n) (by omega) q
    have e : addTo s q (n + 1) = incK (addTo s q n) (posK s q n) := fold_range _ _ _
    rw [e, incK_get (by omega), ih]
    by_cases hkn : k = n
    · subst hkn
      by_cases hpos : posK s q k = posK s p k
      · rw [if_pos hpos, if_neg (by omega), if_pos ⟨by omega, hpos⟩]
      · rw [if_neg hpos, if_neg (by omega), if_neg fun k => hpos k.2]
    · rw [if_neg (pos_ne h (by omega) hk (fun k => hkn k.symm) q p)]
      by_cases hc : k < n ∧ posK s q k = posK s p k
      · rw [if_pos hc, if_pos ⟨by omega, hc.2⟩]
      · rw [if_neg hc, if_neg fun k => hc ⟨by omega, k.2⟩]
theorem cell_add {s : Sk} (h : okK s) {q : Pf} (hq : saneP q = true) (p : Pf) {k : Nat} (hk : k < rowsK s) : cellK (addK s q) p k = if posK s q k = posK s p k then min 255 (cellK s p k + 1) else cellK s p k := by
  unfold cellK
  rw [posK_same (addK_w s q), addK_eq hq]
  dsimp only
  rw [addTo_get h q p hk _ (Nat.le_refl _)]
  by_cases e : posK s q k = posK s p k
  · rw [if_pos ⟨hk, e⟩, if_pos e]; rfl
  · rw [if_neg fun k => e k.2, if_neg e]; rfl
theorem cell_dec (s : Sk) (p : Pf) (k : Nat) : cellK (decK s) p k = cellK s p k / 2 := by
  unfold cellK
  rw [posK_same (s := s) (s' := decK s) rfl]
  unfold decK
  dsimp only
  rw [List.getD_eq_getElem?_getD, List.getElem?_map, List.getD_eq_getElem?_getD]
  cases s.1[posK s p k]? <;> rfl
theorem cell_ok {s : Sk} (h : okK s) (p : Pf) (k : Nat) : 0 ≤ cellK s p k ∧ cellK s p k ≤ 255 := getD_ok h.c _
theorem cell_new (r w : Int) (p : Pf) (k : Nat) : cellK (newK r w) p k = 0 := by
  unfold cellK newK
  rw [List.getD_eq_getElem?_getD, List.getElem?_replicate]
  split <;> rfl
theorem count_add {s : Sk} (h : okK s) {q : Pf} (hq : saneP q = true) (p : Pf) : countK s p ≤ countK (addK s q) p ∧ countK (addK s q) p ≤ countK s p + 1 := by
  cases hp : saneP p with
  | false => rw [countK_not hp, countK_not hp]; omega
  | true =>
    rw [countK_eq hp, countK_eq hp, rowsK_add h]
    have hc : ∀ k, k < rowsK s → cellK s p k ≤ cellK (addK s q) p k ∧ cellK (addK s q) p k ≤ cellK s p k + 1 := fun k hk => by
      rw [cell_add h hq p hk]
      have := cell_ok h p k
      split <;> omega
    constructor
    · exact le_mfold (mfold_top _ _) fun k hk => Int.le_trans (mfold_le _ hk) (hc k hk).1
    · rcases mfold_is (cellK s p) (rowsK s) with e | ⟨k, hk, e⟩
      · have := mfold_top (cellK (addK s q) p) (rowsK s); omega
      · have := mfold_le (cellK (addK s q) p) hk
        have := hc k hk
        omega
theorem count_add_same {s : Sk} (h : okK s) {p : Pf} (hp : saneP p = true) : countK (addK s p) p = min 255 (countK s p + 1) := by
  rw [countK_eq hp, countK_eq hp, rowsK_add h]
  have hc : ∀ k, k < rowsK s → cellK (addK s p) p k = min 255 (cellK s p k + 1) := fun k hk => by rw [cell_add h hp p hk, if_pos rfl]
  refine Int.le_antisymm ?_ ?_
  · have t := mfold_top (cellK (addK s p) p) (rowsK s)
    rcases mfold_is (cellK s p) (rowsK s) with e | ⟨k, hk, e⟩
    · omega
    · have := mfold_le (cellK (addK s p) p) hk
      have := hc k hk
      omega
  · refine le_mfold (by omega) fun k hk => ?_
    have := mfold_le (cellK s p) hk
    have := hc k hk
    omega
theorem count_dec {s : Sk} (h : okK s) (p : Pf) : countK (decK s) p = countK s p / 2 := by
  cases hp : saneP p with
  | false => rw [countK_not hp, countK_not hp]; rfl
  | true =>
    rw [countK_eq hp, countK_eq hp, decK_rows]
    obtain ⟨r, hr, r1, _⟩ := h.rows
    refine Int.le_antisymm ?_ ?_
    · rcases mfold_is (cellK s p) (rowsK s) with e | ⟨k, hk, e⟩
      · have t := mfold_le (cellK (decK s) p) (r := rowsK s) (k := 0) (by omega)
        have := cell_dec s p 0
        have := cell_ok h p 0
        omega
      · have t := mfold_le (cellK (decK s) p) hk
        have := cell_dec s p k
        omega
    · have t := mfold_top (cellK s p) (rowsK s)
      refine le_mfold (by omega) fun k hk => ?_
      have := mfold_le (cellK s p) hk
      have := cell_dec s p k
      omega
theorem count_new (r w : Int) (p : Pf) : countK (newK r w) p = 0 := by
  cases hp : saneP p with
  | false => exact countK_not hp
  | true =>
    rw [countK_eq hp]
    obtain ⟨n, hr, r1, _⟩ := (okK_new r w).rows
    refine Int.le_antisymm ?_ (le_mfold (by omega) fun k _ => by rw [cell_new]; omega)
    have := mfold_le (cellK (newK r w) p) (r := rowsK (newK r w)) (k := 0) (by omega)
    rw [cell_new] at this
    exact this
theorem count_ok {s : Sk} (h : okK s) (p : Pf) : 0 ≤ countK s p ∧ countK s p ≤ 255 := by
  cases hp : saneP p with
  | false => rw [countK_not hp]; omega
  | true =>
    rw [countK_eq hp]
    exact ⟨le_mfold (by omega) fun k _ => (cell_ok h p k).1, mfold_top _ _⟩
end Sp
end
section
set_option linter.all false
set_option maxRecDepth 10000
namespace Sp
open Go Go.Proofs Sx Go.Proofs.YthnhbnakpmkppaaGreat.Ma
theorem trNew_ok : okTr ⟨[], 0⟩ trNew := by
  refine ⟨⟨⟨⟨none, .nil, .nil, rfl⟩, ⟨none, .nil, .nil, rfl⟩, ?_, ?_, ?_, ?_, ?_, ?_, ?_⟩, ?_⟩, rfl, rfl, ?_, ?_, ?_⟩
  · exact ⟨⟨by decide, 0, rfl, fun x h => by cases h⟩, trivial, trivial⟩
  · exact ⟨⟨by decide, 0, rfl, fun x h => by cases h⟩, trivial, trivial⟩
  · exact ⟨trivial, trivial⟩
  · exact ⟨trivial, trivial⟩
  · decide
  · intro x hx; cases hx
  · decide
  · intro v6 q i e l r hq _ hs
    exfalso
    cases q with
    | nil => exact hq rfl
    | cons b q => cases v6 <;> cases b <;> (have hs : Tr.nil.sub q = .node i e l r := hs; rw [Tr.sub_nil] at hs; cases hs)
  · decide
  · decide
  · exact Nat.le_refl 0
theorem p_tnew : T_tnew := fun _ _ => ⟨(), trivial, rfl, rfl, rfl, rfl, rfl, trivial⟩
theorem p_tpnew : T_tpnew := fun _ _ => ⟨(), trivial, fun _ _ => ⟨⟨[], 0⟩, trNew, trNew_ok, rfl, rfl, rfl, rfl, rfl, (), trivial, rfl, trivial⟩⟩
theorem p_tpabove : T_tpabove := by
  unfold T_tpabove; try dsimp only [H_SpPkt_1]
  rintro ⟨m, p⟩ hw
  refine ⟨m, rfl, fun z hz => ⟨(z, p), rfl, rfl, rfl, rfl, rfl, rfl, rfl, rfl, rfl, ⟨hz.ok, hw⟩, fun _ _ => ⟨m, z, hz, rfl, rfl, rfl, rfl, rfl, (), trivial, ?_, rfl, ?_, trivial⟩⟩⟩
  · dsimp only; rw [dump_above hz.ok, hz.dump]
  · dsimp only; rw [dump_above hz.ok, hz.dump]
theorem p_tpunder : T_tpunder := by
  unfold T_tpunder; try dsimp only [H_SpPkt_1]
  rintro ⟨m, p⟩ hw
  refine ⟨m, rfl, fun z hz => ⟨(z, p), rfl, rfl, rfl, rfl, rfl, rfl, rfl, rfl, rfl, ⟨hz.ok, hw⟩, fun _ _ => ⟨m, z, hz, rfl, rfl, rfl, rfl, rfl, (), trivial, ?_, rfl, ?_, trivial⟩⟩⟩
  · dsimp only; rw [dump_under hz.ok, hz.dump]
  · dsimp only; rw [dump_under hz.ok, hz.dump]
theorem p_tplongest : T_tplongest := by
  rintro ⟨m, a⟩ hw
  refine ⟨m, rfl, fun z hz => ⟨(z, a), rfl, rfl, rfl, rfl, rfl, rfl, rfl, rfl, ⟨hz.ok, hw⟩, fun _ _ => ⟨m, z, hz, rfl, rfl, rfl, rfl, rfl, (), trivial, ?_⟩⟩⟩
  dsimp only
  have e : z.longest a = m.longest a := by unfold Trie.longest TrM.longest; rw [dump_above hz.ok, hz.dump]
  rw [e]
  exact ⟨rfl, rfl, rfl, rfl, rfl, rfl, rfl, trivial⟩
theorem at_get (z : Trie) (hz : z.ok) (p : Pf) : (z.at' p).ent = (getE z.dump p).map (·.2.2.2.2) := by
  unfold Trie.at' Trie.sel
  cases hs : saneP p with
  | false =>
    rw [if_neg (by decide)]
    cases hg : getE z.dump p with
    | none => rfl
    | some x =>
      obtain ⟨h1, h2⟩ := getE_some hg
      have := snn_dump hz x h1
      rw [h2, hs] at this
      cases this
  | true =>
    rw [if_pos rfl]
    exact get_dump hz hs
theorem p_tpget : T_tpget := by
  unfold T_tpget; try dsimp only [H_SpPkt_1]
  rintro ⟨m, p⟩ hw
  refine ⟨m, rfl, fun z hz => ⟨(z, p), rfl, rfl, rfl, rfl, rfl, rfl, rfl, rfl, rfl, ⟨hz.ok, hw⟩, fun _ _ => ⟨m, z, hz, rfl, rfl, rfl, rfl, rfl, (), trivial, ?_, ?_, rfl, trivial⟩⟩⟩
  · dsimp only; rw [at_get z hz.ok, hz.dump]
  · dsimp only; rw [at_get z hz.ok, hz.dump, Option.isSome_map]
theorem p_tpinside : T_tpinside := by
  unfold T_tpinside; try dsimp only [H_SpPkt_1]
  rintro ⟨m, p⟩ hw
  refine ⟨m, rfl, fun z hz => ⟨(z, p), rfl, rfl, rfl, rfl, rfl, rfl, rfl, rfl, rfl, ⟨hz.ok, hw⟩, fun _ _ => ⟨m, z, hz, rfl, rfl, rfl, rfl, rfl, (), trivial, ?_, rfl, trivial⟩⟩⟩
  dsimp only; rw [dump_inside hz.ok, hz.dump]
theorem p_tplen : T_tplen := by
  intro m _
  exact ⟨m, rfl, fun z hz => ⟨z, rfl, rfl, rfl, rfl, rfl, hz.ok, fun _ _ => ⟨m, z, hz, rfl, rfl, rfl, rfl, rfl, (), trivial, hz.n, rfl, trivial⟩⟩⟩
theorem room_of {m : TrM} {z : Trie} (hz : okTr m z) (hk : m.k ≤ 7000) : z.room := by
  have := hz.ar
  have := hz.fr
  have := hz.n
  have := hz.le
  exact ⟨hz.ok, by omega, by omega, by omega, by omega⟩
theorem put_ok {m : TrM} {z u : Trie} {p : Pf} {v : Int} (hz : okTr m z) (h : ifB (saneP p) (PutP z p v u) (u = z)) : okTr (m.put p v) u := by
  unfold TrM.put
  cases hs : saneP p with
  | false =>
    rw [hs] at h
    have h : u = z := h
    subst h
    exact hz
  | true =>
    rw [hs] at h
    have h : PutP z p v u := h
    rw [if_pos rfl]
    have hd := dump_put hz.ok hs h
    have hl := lens_E (srt_dump hz.ok) (snn_dump hz.ok) (r := mkR p v) hs
    have hg := get_dump hz.ok hs
    have hn := h.n
    have hm := h.more
    have := hz.ar
    have := hz.fr
    have := hz.n
    have := hz.le
    have e : rP (mkR p v) = p := rfl
    rw [hz.dump] at hd hl hg
    rw [e] at hl
    rw [hg, Option.isSome_map] at hn
    refine ⟨h.ok, hd, ?_, by dsimp only; omega, by dsimp only; omega, ?_⟩
    · rw [hn]
      dsimp only
      rw [hl.1]
      split <;> omega
    · dsimp only
      rw [hl.1]
      split <;> omega
theorem del_ok {m : TrM} {z u : Trie} {p : Pf} (hz : okTr m z) (h : ifB (saneP p) (DelP z p u) (u = z)) : okTr (m.del p) u := by
  unfold TrM.del
  cases hs : saneP p with
  | false =>
    rw [hs] at h
    have h : u = z := h
    subst h
    exact hz
  | true =>
    rw [hs] at h
    have h : DelP z p u := h
    rw [if_pos rfl]
    have hd := dump_del hz.ok hs h
    have hl := lens_E (srt_dump hz.ok) (snn_dump hz.ok) (r := mkR p 0) hs
    have hg := get_dump hz.ok hs
    have hn := h.n
    have hm := h.more
    have := hz.ar
    have := hz.fr
    have := hz.n
    have := hz.le
    have e : rP (mkR p 0) = p := rfl
    rw [hz.dump] at hd hl hg
    rw [e] at hl
    rw [hg, Option.isSome_map] at hn
    obtain ⟨_, l1, l2⟩ := hl
    refine ⟨h.ok, hd, ?_, by dsimp only; omega, by dsimp only; omega, ?_⟩
    · rw [hn]
      dsimp only
      rw [l1]
      split
      · rename_i k; have := l2 k; omega
      · omega
    · dsimp only
      rw [l1]
      split <;> omega
theorem p_tpput : T_tpput := by
  rintro ⟨m, p, v⟩ ⟨hw, hk⟩
  exact ⟨m, rfl, fun z hz => ⟨(z, p, v), rfl, rfl, rfl, rfl, rfl, rfl, rfl, rfl, rfl, rfl, ⟨room_of hz hk, hw⟩, fun u hu => ⟨m.put p v, u, put_ok hz hu, rfl, rfl, rfl, rfl, rfl, (), trivial, rfl, rfl, trivial⟩⟩⟩
theorem p_tpdel : T_tpdel := by
  rintro ⟨m, p⟩ ⟨hw, hk⟩
  refine ⟨m, rfl, fun z hz => ⟨(z, p), rfl, rfl, rfl, rfl, rfl, rfl, rfl, rfl, rfl, ⟨room_of hz hk, hw⟩, fun u hu => ⟨m.del p, u, del_ok hz hu, rfl, rfl, rfl, rfl, rfl, (), trivial, ?_, rfl, trivial⟩⟩⟩
  dsimp only
  by_cases hs : saneP p = true
  · rw [if_pos hs, if_pos hs]
    have := get_dump hz.ok hs
    rw [hz.dump] at this
    rw [this, Option.isSome_map]
  · rw [if_neg hs, if_neg hs]
/-! ### numbers in order -/
theorem p_optouch : T_optouch := by
  rintro ⟨m, i⟩ _
  refine ⟨m, rfl, fun z ⟨h1, h2, h3⟩ => ⟨(z, i), rfl, rfl, rfl, rfl, rfl, rfl, h1, fun u hu => ?_⟩⟩
  have e : inO z i = m.in' i := by unfold inO RcM.in'; rw [h3]
  refine ⟨if m.in' i = true then (i :: m.1.erase i, m.2) else m, u, ⟨hu.ok, ?_, ?_⟩, rfl, rfl, rfl, rfl, rfl, (), trivial, e, rfl, trivial⟩
  · rw [hu.o]
    dsimp only
    rw [e, h2]
    split <;> rfl
  · rw [hu.len]
    dsimp only
    rw [h3]
    split <;> rfl
theorem p_opdrop : T_opdrop := by
  rintro ⟨m, i⟩ _
  refine ⟨m, rfl, fun z ⟨h1, h2, h3⟩ => ⟨(z, i), rfl, rfl, rfl, rfl, rfl, rfl, h1, fun u hu => ⟨(m.1.erase i, m.2), u, ⟨hu.ok, ?_, ?_⟩, rfl, rfl, rfl, rfl, rfl, (), trivial, ?_, rfl, trivial⟩⟩⟩
  · rw [hu.o]; dsimp only; rw [h2]
  · rw [hu.len]; dsimp only; rw [h3]
  · dsimp only; rw [h2]
theorem p_oplen : T_oplen := by
  intro m _
  exact ⟨m, rfl, fun z hz => ⟨z, rfl, rfl, rfl, rfl, rfl, hz.1, fun _ _ => ⟨m, z, hz, rfl, rfl, rfl, rfl, rfl, (), trivial, by rw [hz.2.1], rfl, trivial⟩⟩⟩
theorem p_oporder : T_oporder := by
  intro m _
  exact ⟨m, rfl, fun z hz => ⟨z, rfl, rfl, rfl, rfl, rfl, hz.1, fun _ _ => ⟨m, z, hz, rfl, rfl, rfl, rfl, rfl, (), trivial, by rw [hz.2.1], rfl, hz.2.1, trivial⟩⟩⟩
theorem p_opnew : T_opnew := by
  intro m _
  refine ⟨m, rfl, trivial, fun u ⟨h1, h2, h3⟩ => ⟨([], (max 0 (min m 1024)).toNat), u, ⟨h1, h2, ?_⟩, rfl, rfl, rfl, rfl, rfl, (), trivial, rfl, trivial⟩⟩
  dsimp only
  omega
/-! ### places -/
theorem p_sptake : T_sptake := by
  rintro ⟨m, x⟩ _
  refine ⟨m, rfl, fun z ⟨h1, h2⟩ => ⟨(z, x), rfl, rfl, rfl, rfl, rfl, rfl, rfl, rfl, rfl, rfl, h1, fun u hu => ?_⟩⟩
  subst h2
  dsimp only at hu ⊢
  by_cases hc : z.n < z.most
  · rw [decide_eq_true hc] at hu ⊢
    have hu : TakeP z x u := hu
    refine ⟨_, u.2, ⟨hu.ok, rfl⟩, rfl, rfl, rfl, rfl, rfl, u.1, ⟨fun _ => hu.new, fun k => absurd hc k⟩, rfl, rfl, ?_, trivial⟩
    rw [if_pos hc]
    rw [hu.n, hu.most]
    congr 2
    funext j
    rw [hu.get]
    rfl
  · rw [decide_eq_false hc] at hu ⊢
    have hu : u = (0, z) := hu
    subst hu
    refine ⟨_, z, ⟨h1, rfl⟩, rfl, rfl, rfl, rfl, rfl, 0, ⟨fun k => absurd k hc, fun _ => rfl⟩, rfl, rfl, ?_, trivial⟩
    rw [if_neg hc]
theorem p_spgive : T_spgive := by
  rintro ⟨m, i⟩ _
  refine ⟨m, rfl, fun z ⟨h1, h2⟩ => ⟨(z, i), rfl, rfl, rfl, rfl, rfl, rfl, h1, fun u hu => ?_⟩⟩
  subst h2
  refine ⟨_, u, ⟨hu.ok, rfl⟩, rfl, rfl, rfl, rfl, rfl, (), trivial, rfl, ?_, trivial⟩
  rw [hu.n, hu.most]
  congr 2
  funext j
  rw [hu.get]
  rfl
theorem p_spat : T_spat := by
  rintro ⟨m, i⟩ _
  refine ⟨m, rfl, fun z ⟨h1, h2⟩ => ⟨(z, i), rfl, rfl, rfl, rfl, rfl, rfl, h1, fun _ _ => ⟨m, z, ⟨h1, h2⟩, rfl, rfl, rfl, rfl, rfl, (), trivial, ?_⟩⟩⟩
  subst h2
  exact ⟨rfl, rfl, rfl, rfl, rfl, rfl, rfl, trivial⟩
theorem p_splen : T_splen := by
  intro m _
  refine ⟨m, rfl, fun z ⟨h1, h2⟩ => ⟨z, rfl, rfl, rfl, rfl, rfl, h1, fun _ _ => ⟨m, z, ⟨h1, h2⟩, rfl, rfl, rfl, rfl, rfl, (), trivial, ?_, rfl, trivial⟩⟩⟩
  subst h2
  rfl
theorem p_spcap : T_spcap := by
  intro m _
  refine ⟨m, rfl, fun z ⟨h1, h2⟩ => ⟨z, rfl, rfl, rfl, rfl, rfl, h1, fun _ _ => ⟨m, z, ⟨h1, h2⟩, rfl, rfl, rfl, rfl, rfl, (), trivial, ?_, rfl, trivial⟩⟩⟩
  subst h2
  rfl
theorem p_spnew : T_spnew := by
  intro m _
  refine ⟨m, rfl, trivial, fun _ _ => ⟨_, ⟨[], max 0 (min m 1024), -1, 0⟩, ⟨newSl_ok m, rfl⟩, rfl, rfl, rfl, rfl, rfl, (), trivial, ?_, trivial⟩⟩
  congr 2
  funext i
  exact newSl_at m i
/-! ### counts -/
theorem p_kpadd : T_kpadd := by
  unfold T_kpadd; try dsimp only [H_SpPkt_2]
  rintro ⟨m, p⟩ hw
  refine ⟨m, rfl, fun z ⟨h1, h2⟩ => ⟨(z, p), rfl, rfl, rfl, rfl, rfl, rfl, rfl, ⟨by rw [h1]; exact h2, hw⟩, fun _ _ => ?_⟩⟩
  subst h1
  exact ⟨addK z p, addK z p, ⟨rfl, okK_add h2 p⟩, (addK_len h2 p).symm, by unfold addK; split <;> rfl, rfl, (), trivial, rfl, rfl, trivial⟩
theorem p_kpcount : T_kpcount := by
  unfold T_kpcount; try dsimp only [H_SpPkt_2]
  rintro ⟨m, p⟩ hw
  refine ⟨m, rfl, fun z ⟨h1, h2⟩ => ⟨(z, p), rfl, rfl, rfl, rfl, rfl, rfl, rfl, ⟨by rw [h1]; exact h2, hw⟩, fun _ _ => ?_⟩⟩
  subst h1
  exact ⟨z, z, ⟨rfl, h2⟩, rfl, rfl, rfl, (), trivial, rfl, rfl, trivial⟩
theorem p_kpdecay : T_kpdecay := by
  intro m _
  refine ⟨m, rfl, fun z ⟨h1, h2⟩ => ⟨z, rfl, rfl, rfl, by rw [h1]; exact h2, fun _ _ => ?_⟩⟩
  subst h1
  exact ⟨decK z, decK z, ⟨rfl, okK_dec h2⟩, by simp [decK], rfl, rfl, (), trivial, rfl, trivial⟩
theorem p_kpnew : T_kpnew := by
  rintro ⟨r, w⟩ _
  exact ⟨(r, w), rfl, rfl, trivial, fun _ _ => ⟨newK r w, newK r w, ⟨rfl, okK_new r w⟩, rfl, rfl, rfl, (), trivial, rfl, trivial⟩⟩
end Sp
end
