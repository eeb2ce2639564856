/- A symbolic walk: copy, clear, make, literals of slices, bytes of a string. -/
import Derived.Test.YtcilcmbailoeaaaSxL
set_option linter.all false
namespace Sx
open Go
section
variable {P : Program} {ν : Nu} {N : Nat} {w : World} {H : Hp} {K : R → Hp → Nat → Prop}
theorem run_copy_some {dT sT ty e e0 : TypeId} {size g o dLen dCap sLen sCap : Nat} {a : Addr} {cur : Array Value} {cs : List Value} (hu : P.underlying dT = some (.slice e)) (hs : (Go.sizeOf e).run P w = .ok size w)
    (hg : w.heap[g]? = some (.cells cur e0 (0, 0))) (hn : cs.length = min sLen dLen * size) (hsrc : ∀ j v, cs[j]? = some v → w.cell? (a.add j) = some v) (hfit : o + cs.length ≤ cur.size) (h1 : ∀ v ∈ cs, v.oneCell' = true) :
    (Builtin.copy_ #[dT, sT] ty #[.slice (some ⟨g, o, none⟩) dLen dCap, .slice (some a) sLen sCap]).run P w = .ok (.int .i64 ((min sLen dLen : Nat) : Int)) (w.setRow g (setAtV cur.toList o cs).toArray) := by
  have hl := run_firstCells_some (P := P) w size (min sLen dLen) a sLen sCap cs hn hsrc
  have hst := run_storeCells_at P g o e0 cs 0 cur w hg (by simpa using hfit) h1
  rw [setAtV_eq _ _ _ (by simpa using hfit)]
  simp only [Nat.add_zero] at hst
  have hm : Nat.min sLen dLen = min sLen dLen := rfl
  simp [Builtin.copy_, run_underlying hu, Builtin.lenOf, hs, hm, hl, hst, goInt]
theorem run_copy_zero {dT sT ty e : TypeId} {size dLen dCap sLen sCap : Nat} {db sb : Option Addr} (hu : P.underlying dT = some (.slice e)) (hs : (Go.sizeOf e).run P w = .ok size w) (h0 : min sLen dLen = 0) :
    (Builtin.copy_ #[dT, sT] ty #[.slice db dLen dCap, .slice sb sLen sCap]).run P w = .ok (.int .i64 0) w := by
  have hm : Nat.min sLen dLen = 0 := h0
  cases db <;> cases sb <;> simp [Builtin.copy_, run_underlying hu, Builtin.lenOf, hs, hm, Builtin.firstCells, loadCells, loadCellsFrom, storeCells, goInt]
theorem min_range {n m cap : Nat} (h : n ≤ cap) (hc : cap ≤ maxLen) : lo .i64 ≤ ((min m n : Nat) : Int) ∧ ((min m n : Nat) : Int) ≤ hi .i64 := by
  have h1 := maxLen_hi
  have h2 := lo_le .i64
  omega
theorem copy_core (hH : hpH ν N w H) {dT sT ty e : TypeId} {ks : List Kd} {l a b : Nat} {xs ys : List (Tup ks)} {db : Option Addr} {dCap : Nat} {v : Value} (hu : P.underlying dT = some (.slice e)) (hs : (Go.sizeOf e).run P w = .ok ks.length w)
    (hg : hget H l = some (.row true ks xs)) (hab : a ≤ b) (hb : b ≤ xs.length) (hok : okSl db (b - a) dCap) (hdb : ∀ g cap, ν.sv l = .slice (some ⟨g, 0, none⟩) xs.length cap → a < b → db = some ⟨g, a * ks.length, none⟩)
    (hsrc : (v = .slice none 0 0 ∧ ys = []) ∨ (wfT ks ys ∧ ∃ base cap, v = .slice base ys.length cap ∧ okSl base ys.length cap ∧ ∀ j u, (flat ks ys)[j]? = some u → ∃ x, base = some x ∧ w.cell? (x.add j) = some u))
    (h : K (.i .i64 ((min ys.length (b - a) : Nat) : Int)) (hset H l N (.row true ks (mid xs a (ys.take (min ys.length (b - a)))))) (N + 1)) :
    ∃ z w', (Builtin.copy_ #[dT, sT] ty #[.slice db (b - a) dCap, v]).run P w = .ok z w' ∧ Goes ν N H w K z w' := by
  by_cases h0 : min ys.length (b - a) = 0
  · rw [h0, List.take_zero, mid_nil] at h
    have hr : relR ν (N + 1) (.i .i64 ((0 : Nat) : Int)) (.int .i64 0) := relI_mk (min_range (m := 0) hok.1.1 hok.1.2 |> fun h => by simpa using h)
    have hv : ∃ sb c, v = .slice sb ys.length c := by
      rcases hsrc with ⟨rfl, rfl⟩ | ⟨_, base, cap, rfl, _⟩
      · exact ⟨none, 0, rfl⟩
      · exact ⟨base, cap, rfl⟩
    obtain ⟨sb, c, rfl⟩ := hv
    exact ⟨_, _, run_copy_zero hu hs h0, row_unwritten hH hg hr h⟩
  · rcases hsrc with ⟨_, rfl⟩ | ⟨hwy, base, cap, rfl, hokS, hcell⟩
    · simp at h0
    have hlt : (ys.take (min ys.length (b - a))).length = min ys.length (b - a) := by rw [List.length_take]; omega
    have hne : ys.take (min ys.length (b - a)) ≠ [] := by intro e; rw [e] at hlt; simp at hlt; omega
    have hne' : ys ≠ [] := by rintro rfl; simp at h0
    obtain ⟨hk, _⟩ := (hH.ob _ _ hg).2
    obtain ⟨v0, hv0⟩ := flat_ne hk hne'
    obtain ⟨x, rfl, _⟩ := hcell 0 v0 hv0
    obtain ⟨g, cap', cur, e0, h1, h2, h3, h4⟩ := row_written hH hg (a := a) (ys := ys.take (min ys.length (b - a))) (wfT_sub hwy fun q hq => List.mem_of_mem_take hq) (by rw [hlt]; omega) (r := .i .i64 ((min ys.length (b - a) : Nat) : Int))
      (relI_mk (min_range hok.1.1 hok.1.2)) h hne
    rw [hdb g cap' h1 (by omega)]
    refine ⟨_, _, run_copy_some hu hs h2 (cs := flat ks (ys.take (min ys.length (b - a)))) (by rw [flat_length, hlt]) (fun j u hu => ?_) h3 (vals_one _), h4⟩
    rw [flat_take _ _ _ (by omega), List.getElem?_take] at hu
    split at hu
    · obtain ⟨x', hx', hc⟩ := hcell j u hu
      cases hx'
      exact hc
    · cases hu
theorem copy_sound (hH : hpH ν N w H) {t sT ty : TypeId} {d x : R} {u v : Value} (hd : relR ν N d u) (hx : relR ν N x v) (h : copy P H N t d x fun r H => K r H (N + 1)) :
    ∃ z w', (Builtin.copy_ #[t, sT] ty #[u, v]).run P w = .ok z w' ∧ Goes ν N H w K z w' := by
  unfold copy at h
  split at h
  · exact h.elim
  rename_i e he
  have hu := elemT_some he
  split at h
  · exact h.elim
  rename_i ks hks
  obtain ⟨i, z, hi, hz, hsz, hk, hzc, hzs, hco⟩ := rowT_some hks
  have hs : (Go.sizeOf e).run P w = .ok ks.length w := by rw [← hco]; exact run_size1 (Nat.ble_eq_true_of_le (by omega))
  split at h
  · exact h.elim
  rename_i ys hys
  have hsrc := source_sound hH hx hys
  split at h
  · rename_i l n
    obtain ⟨hl, rfl, base, cap, hsv, hok⟩ := hd
    split at h
    · rename_i ks' xs' hg
      split at h
      · rename_i xs hcast
        obtain ⟨e1, e2⟩ := castRow_some hcast
        subst e1
        subst e2
        obtain ⟨_, hw, hfp, e0, hown⟩ := (hH.ob _ _ hg).2
        obtain ⟨base', cap', hsv', _⟩ := own_ok hown
        rw [hsv] at hsv'
        obtain ⟨_, hn, _⟩ := slice_inj hsv'
        subst hn
        have := copy_core (ty := ty) (sT := sT) (K := K) (a := 0) (b := xs'.length) hH hu hs hg (Nat.zero_le _) (Nat.le_refl _) hok (fun g cap h _ => by
          rw [hsv] at h
          obtain ⟨h, _, _⟩ := slice_inj h
          rw [h]; simp) hsrc (by simpa using h)
        rw [hsv]
        simpa using this
      · exact h.elim
    · exact h.elim
  · rename_i l zz a b
    obtain ⟨hl, base, n, cap, base', hsv, hab, hbn, hok, rfl, hba, hok'⟩ := hd
    split at h
    · rename_i ks' xs' hg hzz
      have hzz := Nat.eq_of_beq_eq_true hzz
      subst hzz
      split at h
      · rename_i xs hcast
        obtain ⟨e1, e2⟩ := castRow_some hcast
        subst e1
        subst e2
        obtain ⟨_, hw, hfp, e0, hown⟩ := (hH.ob _ _ hg).2
        obtain ⟨base2, cap2, hsv', _⟩ := own_ok hown
        rw [hsv] at hsv'
        obtain ⟨_, hn, _⟩ := slice_inj hsv'
        subst hn
        refine copy_core (ty := ty) (sT := sT) (K := K) hH hu hs hg hab hbn hok' (fun g cap3 h hlt => ?_) hsrc h
        rw [hsv] at h
        obtain ⟨h, _, hc⟩ := slice_inj h
        have := hok.1.1
        rw [hba (by omega), h]
        simp [addA]
      · exact h.elim
    · exact h.elim
  · cases hd
    have hv : ∃ sb n c, v = .slice sb n c := by
      rcases hsrc with ⟨rfl, rfl⟩ | ⟨_, base, cap, rfl, _⟩
      · exact ⟨none, 0, 0, rfl⟩
      · exact ⟨base, _, cap, rfl⟩
    obtain ⟨sb, n, c, rfl⟩ := hv
    refine ⟨_, _, run_copy_zero hu hs (by simp), ν, N + 1, H, _, relI_mk (n := 0) ⟨lo_le _, hi_ge _⟩, ?_, Mv.stay _ _ _ _ _ (Nat.le_succ N), h⟩
    exact ⟨fun l o hl => ⟨Nat.lt_succ_of_lt (hH.ob l o hl).1, obH_kept (fun _ _ => ⟨rfl, rfl⟩) (Nat.le_succ N) (Nat.le_refl _) (hH.ob l o hl).1 rfl (fun _ _ => rfl) (hH.ob l o hl).2⟩, fun l o hl => Nat.lt_succ_of_lt (hH.st l o hl), hH.ap⟩
  · exact h.elim
theorem zeroCells_flat {z : Array Value} {ks : List Kd} (hz : z.toList = (leafs ks (zT ks)).map L.val) (n : Nat) : (Builtin.zeroCells z n).toList = flat ks (List.replicate n (zT ks)) := by
  rw [flat_replicate, ← hz, ← zeros_list]; rfl
theorem run_clear_some {t ty e e0 : TypeId} {i : TypeInfo} {z : Value} {g o n cap : Nat} {cur : Array Value} {cs : List Value} (hu : P.underlying t = some (.slice e)) (hi : P.info? e = some i) (hz : i.zero = some z) (hcs : (Builtin.zeroCells z.cells n).toList = cs)
    (hg : w.heap[g]? = some (.cells cur e0 (0, 0))) (hfit : o + cs.length ≤ cur.size) (h1 : ∀ v ∈ cs, v.oneCell' = true) (hn : n ≠ 0) :
    (Builtin.clear_ #[t] ty #[.slice (some ⟨g, o, none⟩) n cap]).run P w = .ok (.tuple #[]) (w.setRow g (setAtV cur.toList o cs).toArray) := by
  have hst := run_storeCells_at P g o e0 cs 0 cur w hg (by simpa using hfit) h1
  rw [setAtV_eq _ _ _ (by simpa using hfit)]
  simp only [Nat.add_zero] at hst
  obtain ⟨n, rfl⟩ : ∃ m, n = m + 1 := ⟨n - 1, by omega⟩
  simp [Builtin.clear_, run_underlying hu, zeroValue, typeInfo, hi, hz, hcs, hst]
theorem run_clear_zero {t ty e : TypeId} {base : Option Addr} {cap : Nat} (hu : P.underlying t = some (.slice e)) : (Builtin.clear_ #[t] ty #[.slice base 0 cap]).run P w = .ok (.tuple #[]) w := by
  cases base <;> simp [Builtin.clear_, run_underlying hu]
theorem clear_core (hH : hpH ν N w H) {t ty e : TypeId} {i : TypeInfo} {z : Value} {ks : List Kd} {l a b : Nat} {xs : List (Tup ks)} {db : Option Addr} {dCap : Nat} (hu : P.underlying t = some (.slice e)) (hi : P.info? e = some i) (hz : i.zero = some z) (hzc : z.cells.toList = (leafs ks (zT ks)).map L.val)
    (hg : hget H l = some (.row true ks xs)) (hab : a ≤ b) (hb : b ≤ xs.length) (hdb : ∀ g cap, ν.sv l = .slice (some ⟨g, 0, none⟩) xs.length cap → a < b → db = some ⟨g, a * ks.length, none⟩)
    (h : K .unit (hset H l N (.row true ks (mid xs a (List.replicate (b - a) (zT ks))))) (N + 1)) :
    ∃ w', (Builtin.clear_ #[t] ty #[.slice db (b - a) dCap]).run P w = .ok undef w' ∧ Goes ν N H w K undef w' := by
  by_cases h0 : b - a = 0
  · rw [h0, List.replicate_zero, mid_nil] at h
    rw [h0]
    exact ⟨_, run_clear_zero hu, row_unwritten hH hg relR_unit h⟩
  · have hl : (List.replicate (b - a) (zT ks)).length = b - a := List.length_replicate
    obtain ⟨g, cap', cur, e0, h1, h2, h3, h4⟩ := row_written hH hg (a := a) (ys := List.replicate (b - a) (zT ks)) (fun x hx => by rw [List.eq_of_mem_replicate hx]; exact wf_zero ks) (by rw [hl]; omega) (r := .unit) relR_unit h (by intro e; rw [e] at hl; simp at hl; omega)
    rw [hdb g cap' h1 (by omega)]
    exact ⟨_, run_clear_some hu hi hz (zeroCells_flat hzc _) h2 h3 (vals_one _) h0, h4⟩
theorem clear_sound (hH : hpH ν N w H) {t ty : TypeId} {d : R} {u : Value} (hd : relR ν N d u) (h : clear P H N t d fun H => K .unit H (N + 1)) :
    ∃ w', (Builtin.clear_ #[t] ty #[u]).run P w = .ok undef w' ∧ Goes ν N H w K undef w' := by
  unfold clear at h
  split at h
  · exact h.elim
  rename_i e he
  have hu := elemT_some he
  split at h
  · exact h.elim
  rename_i ks hks
  obtain ⟨i, z, hi, hz, hsz, hk, hzc, hzs, hco⟩ := rowT_some hks
  split at h
  · rename_i l n
    obtain ⟨hl, rfl, base, cap, hsv, hok⟩ := hd
    split at h
    · rename_i ks' xs' hg
      split at h
      · rename_i xs hcast
        obtain ⟨e1, e2⟩ := castRow_some hcast
        subst e1
        subst e2
        obtain ⟨_, hw, hfp, e0, hown⟩ := (hH.ob _ _ hg).2
        obtain ⟨base', cap', hsv', _⟩ := own_ok hown
        rw [hsv] at hsv'
        obtain ⟨_, hn, _⟩ := slice_inj hsv'
        subst hn
        have := clear_core (ty := ty) (K := K) (a := 0) (b := xs'.length) (dCap := cap) (db := base) hH hu hi hz hzc hg (Nat.zero_le _) (Nat.le_refl _) (fun g cap h _ => by
          rw [hsv] at h
          obtain ⟨h, _, _⟩ := slice_inj h
          rw [h]; simp) (by simpa using h)
        rw [hsv]
        simpa using this
      · exact h.elim
    · exact h.elim
  · rename_i l zz a b
    obtain ⟨hl, base, n, cap, base', hsv, hab, hbn, hok, rfl, hba, hok'⟩ := hd
    split at h
    · rename_i ks' xs' hg hzz
      have hzz := Nat.eq_of_beq_eq_true hzz
      subst hzz
      split at h
      · rename_i xs hcast
        obtain ⟨e1, e2⟩ := castRow_some hcast
        subst e1
        subst e2
        obtain ⟨_, hw, hfp, e0, hown⟩ := (hH.ob _ _ hg).2
        obtain ⟨base2, cap2, hsv', _⟩ := own_ok hown
        rw [hsv] at hsv'
        obtain ⟨_, hn, _⟩ := slice_inj hsv'
        subst hn
        refine clear_core (ty := ty) (K := K) hH hu hi hz hzc hg hab hbn (fun g cap3 h hlt => ?_) h
        rw [hsv] at h
        obtain ⟨h, _, hc⟩ := slice_inj h
        have := hok.1.1
        rw [hba (by omega), h]
        simp [addA]
      · exact h.elim
    · exact h.elim
  · cases hd
    exact ⟨_, run_clear_zero hu, ν, N + 1, H, _, relR_unit, hpH_up hH (Nat.le_succ N), Mv.stay _ _ _ _ _ (Nat.le_succ N), h⟩
  · exact h.elim
end
end Sx
