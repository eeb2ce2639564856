/- Contracts kept: bytes of addresses, prefixes and routes. -/
import Derived.Test.YtcilcmbailoeaaaSpWt
import Derived.ProofKit
set_option linter.all false
namespace Sp
open Go Go.Proofs Sx Go.Proofs.Ytcilcmbailoeaaa.Ma
theorem widZ (v6 : Bool) : wid v6 = (wd v6 : Int) := by cases v6 <;> rfl
theorem clampN (v6 : Bool) (n : Int) : clamp v6 n = min n.toNat (wd v6) := by unfold clamp; rw [widZ]; omega
theorem clampZ_eq (v6 : Bool) (n : Int) : ((clamp v6 n : Nat) : Int) = clampZ v6 n := by unfold clamp clampZ; rw [widZ]; omega
theorem mask_nat (hi lo : Int) (v6 : Bool) (n : Int) (h : wfA (hi, lo, v6)) : maskA (hi, lo, v6) n = (((keepN hi.toNat (min (clamp v6 n) 64) : Nat) : Int), ((keepN lo.toNat (clamp v6 n - 64) : Nat) : Int), v6) := by
  obtain ⟨⟨h1, h2⟩, h3, h4⟩ := h
  simp only at h1 h2 h3 h4
  obtain ⟨a, rfl⟩ := Int.eq_ofNat_of_zero_le h1
  obtain ⟨b, rfl⟩ := Int.eq_ofNat_of_zero_le h3
  rw [maskA_eq a b v6 n (by omega) (by omega), clampN]
  rfl
theorem toL_nat {x : Int} (h : 0 ≤ x) : A.l (.i .u64 ((x.toNat : Nat) : Int)) = A.l (.i .u64 x) := by rw [Int.toNat_of_nonneg h]
theorem g_maskZ : Good Try.prog 88 MaskZ := good_pure g_mask fun x' hx' => by
  obtain ⟨⟨hi, lo, v6⟩, n⟩ := x'
  have hx : wfA (hi, lo, v6) := hx'
  have hm := mask_nat hi lo v6 n hx
  obtain ⟨⟨h1, h2⟩, h3, h4⟩ := hx
  simp only at h1 h2 h3 h4
  refine ⟨((hi.toNat, lo.toNat, v6), n), ⟨by show hi.toNat < _; omega, by show lo.toNat < _; omega⟩, ?_, ?_⟩
  · show [V.agg [A.l (.i .u64 ((hi.toNat : Nat) : Int)), A.l (.i .u64 ((lo.toNat : Nat) : Int)), _], _] = _
    rw [toL_nat h1, toL_nat h3]
  · simp only [hm]
theorem g_ofZ : Good Try.prog 101 OfZ := good_pure g_of fun x' hx' => by
  obtain ⟨⟨hi, lo, v6⟩, n⟩ := x'
  have hx : wfA (hi, lo, v6) := hx'
  have hm := mask_nat hi lo v6 n hx
  obtain ⟨⟨h1, h2⟩, h3, h4⟩ := hx
  simp only at h1 h2 h3 h4
  refine ⟨((hi.toNat, lo.toNat, v6), n), ⟨by show hi.toNat < _; omega, by show lo.toNat < _; omega⟩, ?_, ?_⟩
  · show [V.agg [A.l (.i .u64 ((hi.toNat : Nat) : Int)), A.l (.i .u64 ((lo.toNat : Nat) : Int)), _], _] = _
    rw [toL_nat h1, toL_nat h3]
  · simp only [ofPf, hm, ofP, pV, clampZ_eq]
    rfl
theorem g_saneZ : Good Try.prog 47 SaneZ := good_pure g_sane fun x' hx' => by
  obtain ⟨hi, lo, v6, n⟩ := x'
  have hx : wfA (hi, lo, v6) := hx'
  have hm := mask_nat hi lo v6 n hx
  obtain ⟨⟨h1, h2⟩, h3, h4⟩ := hx
  simp only at h1 h2 h3 h4
  refine ⟨((hi.toNat, lo.toNat, v6), n), ⟨by show hi.toNat < _; omega, by show lo.toNat < _; omega⟩, ?_, ?_⟩
  · show [V.agg (A.l (.i .u64 ((hi.toNat : Nat) : Int)) :: A.l (.i .u64 ((lo.toNat : Nat) : Int)) :: _)] = _
    rw [toL_nat h1, toL_nat h3]
    rfl
  · show R.b (saneB _) = R.b (saneP _)
    congr 3
    rw [Bool.eq_iff_iff]
    unfold saneB saneP
    rw [decide_eq_true_eq, decide_eq_true_eq]
    unfold ofP ofPf
    show _ ↔ _ = mkP (maskA (hi, lo, v6) n) (clampZ v6 n)
    rw [hm, ← clampZ_eq]
    simp only [Prod.mk.injEq]
    constructor
    · rintro ⟨⟨e1, e2, _⟩, e4⟩
      exact ⟨by omega, by omega, trivial, e4⟩
    · rintro ⟨e1, e2, _, e4⟩
      exact ⟨⟨by omega, by omega, trivial⟩, e4⟩
theorem canA_nat (hi lo : Int) (v6 : Bool) (h : wfA (hi, lo, v6)) : canA (hi, lo, v6) = (((keepN hi.toNat (c0 v6) : Nat) : Int), ((keepN lo.toNat (c1 v6) : Nat) : Int), v6) := by
  have := mask_nat hi lo v6 (wd v6) h
  have e : maskA (hi, lo, v6) (wd v6) = canA (hi, lo, v6) := by
    unfold maskA canA
    rw [List.take_of_length_le]
    rw [bitsA_length]
    simp
  rw [← e, this, clampN]
  cases v6 <;> rfl
theorem g_readZ : Good Try.prog 117 ReadZ := good_pure g_read fun x' hx' => by
  obtain ⟨hi, lo, v6⟩ := x'
  have hx : wfA (hi, lo, v6) := hx'
  have hm := canA_nat hi lo v6 hx
  obtain ⟨⟨h1, h2⟩, h3, h4⟩ := hx
  simp only at h1 h2 h3 h4
  refine ⟨(hi.toNat, lo.toNat, v6), ⟨by show hi.toNat < _; omega, by show lo.toNat < _; omega⟩, ?_, ?_⟩
  · show [V.agg [A.l (.i .u64 ((hi.toNat : Nat) : Int)), A.l (.i .u64 ((lo.toNat : Nat) : Int)), _]] = _
    rw [toL_nat h1, toL_nat h3]
  · simp only [hm]
theorem g_widthZ : Good Try.prog 103 WidthZ := good_pure g_width fun v6 _ => ⟨v6, trivial, rfl, by rw [widZ]⟩
theorem GW0 : Goods Try.prog W0 := goods_cons g_saneZ (goods_cons g_ofZ (goods_cons g_maskZ (goods_cons g_readZ (goods_cons g_widthZ (goods_nil _)))))
/-! ### bytes -/
theorem byte_word (x j : Nat) (h : j < 8) : valB (((toB 64 x).drop (8 * j)).take 8) = x / 2 ^ (56 - 8 * j) % 256 := by
  have e : (64 : Nat) = 8 * j + (8 + (56 - 8 * j)) := by omega
  have h1 : toB 64 x = toB (8 * j) (x / 2 ^ (8 + (56 - 8 * j))) ++ (toB 8 (x / 2 ^ (56 - 8 * j)) ++ toB (56 - 8 * j) x) := by
    conv => lhs; rw [e]
    rw [toB_split, toB_split]
  rw [h1, List.drop_left' (toB_length _ _), List.take_left' (toB_length _ _), ← toB_mod, valB_toB (Nat.mod_lt _ (by decide))]
theorem bytesB_get (n : Nat) : ∀ (l : List Bool) (k : Nat), k < n → (bytesB n l)[k]? = some ((valB ((l.drop (8 * k)).take 8) : Nat) : Int) := by
  induction n with
  | zero => intro l k h; omega
  | succ n ih =>
    intro l k h
    cases k with
    | zero => simp [bytesB]
    | succ k =>
      rw [bytesB, List.getElem?_cons_succ, ih _ _ (by omega), List.drop_drop, show 8 + 8 * k = 8 * (k + 1) by omega]
theorem canA_bits (a : Ad) : toB 64 (canA a).1.toNat = padr 64 ((bitsA a).take 64) ∧ toB 64 (canA a).2.1.toNat = padr 64 ((bitsA a).drop 64) ∧ 0 ≤ (canA a).1 ∧ 0 ≤ (canA a).2.1 := by
  have hl : (bitsA a).length ≤ 128 := by rw [bitsA_length]; exact wd_le _
  simp only [canA, ofB, Int.toNat_natCast]
  exact ⟨toB_valB' (padr_take _), toB_valB' (padr_drop hl), Int.natCast_nonneg _, Int.natCast_nonneg _⟩
theorem bytesA_lo (a : Ad) (k : Nat) (h : k < wd a.2.2 / 8) (h8 : k < 8) : (bytesA a)[k]? = some ((canA a).1 / 2 ^ (56 - 8 * k) % 256) := by
  obtain ⟨h1, _, h0, _⟩ := canA_bits a
  have hl := bitsA_length a
  unfold bytesA
  rw [bytesB_get _ _ _ h]
  have e : ((bitsA a).drop (8 * k)).take 8 = ((toB 64 (canA a).1.toNat).drop (8 * k)).take 8 := by
    rw [h1]
    unfold padr
    rw [List.drop_append_of_le_length (by rw [List.length_take]; omega), List.take_append_of_le_length (by rw [List.length_drop, List.length_take]; omega), List.drop_take, List.take_take]
    congr 1
    omega
  rw [e, byte_word _ _ h8]
  obtain ⟨n, hn⟩ := Int.eq_ofNat_of_zero_le h0
  rw [hn]
  simp
theorem bytesA_hi (a : Ad) (k : Nat) (h : k < wd a.2.2 / 8) (h8 : 8 ≤ k) : (bytesA a)[k]? = some ((canA a).2.1 / 2 ^ (56 - 8 * (k - 8)) % 256) := by
  obtain ⟨_, h1, _, h0⟩ := canA_bits a
  have hl := bitsA_length a
  have hw := wd_le a.2.2
  unfold bytesA
  rw [bytesB_get _ _ _ h]
  have e : ((bitsA a).drop (8 * k)).take 8 = ((toB 64 (canA a).2.1.toNat).drop (8 * (k - 8))).take 8 := by
    rw [h1]
    unfold padr
    rw [List.drop_append_of_le_length (by rw [List.length_drop]; omega), List.take_append_of_le_length (by rw [List.length_drop, List.length_drop]; omega), List.drop_drop]
    congr 2
    omega
  rw [e, byte_word _ _ (by omega)]
  obtain ⟨n, hn⟩ := Int.eq_ofNat_of_zero_le h0
  rw [hn]
  simp
theorem set_next (l : List Int) (k : Nat) (x : Int) (h : l[k]? = some x) : (l.take k ++ List.replicate (l.length - k) (0 : Int)).set k x = l.take (k + 1) ++ List.replicate (l.length - (k + 1)) 0 := by
  obtain ⟨hk, e⟩ := List.getElem?_eq_some_iff.1 h
  rw [List.set_append, if_neg (by rw [List.length_take]; omega), List.length_take, Nat.min_eq_left (by omega), Nat.sub_self]
  obtain ⟨m, hm⟩ : ∃ m, l.length - k = m + 1 := ⟨l.length - k - 1, by omega⟩
  rw [hm, List.replicate_succ, List.set_cons_zero, List.take_succ_eq_append_getElem hk, e, List.append_assoc, show l.length - (k + 1) = m by omega]
  rfl
theorem p_bytes : T_bytes := by
  intro a ha
  refine ⟨a, rfl, rfl, rfl, ha, fun _ _ => ⟨a.2.2, rfl, trivial, fun _ _ => ?_⟩⟩
  have hlen := bytesA_length a
  obtain ⟨W, hW⟩ : ∃ W, wd a.2.2 / 8 = W := ⟨_, rfl⟩
  have hW2 : W = 16 ∨ W = 4 := by rw [← hW]; cases a.2.2 <;> simp [wd]
  have hWZ : (wd a.2.2 : Int) / 8 = (W : Int) := by omega
  rw [hWZ, Int.toNat_natCast]
  refine ⟨by omega, by omega, fun x => ∃ k : Nat, x.1 = k ∧ k ≤ W ∧ x.2 = (bytesA a).take k ++ List.replicate (W - k) 0, fun x => (W - x.1).toNat, ⟨(0, List.replicate W 0), ⟨0, rfl, by omega, by simp⟩, rfl, rfl, trivial⟩, ?_⟩
  rintro ⟨_, _⟩ ⟨k, rfl, hk, rfl⟩
  simp only
  refine ifB_d (fun hlt => ⟨by omega, by omega, ifB_d (fun h0 => ⟨by omega, by omega, by omega, by omega, by omega, (((k + 1 : Nat) : Int), (bytesA a).take (k + 1) ++ List.replicate (W - (k + 1)) 0), ⟨k + 1, rfl, by omega, rfl⟩, by simp only; omega, by simp only; omega, ?_, trivial⟩) fun h0 => ifB_d (fun h1 => ⟨by omega, by omega, by omega, by omega, by omega, (((k + 1 : Nat) : Int), (bytesA a).take (k + 1) ++ List.replicate (W - (k + 1)) 0), ⟨k + 1, rfl, by omega, rfl⟩, by simp only; omega, by simp only; omega, ?_, trivial⟩) fun h1 => by omega⟩) fun hge => ?_
  · have e := bytesA_lo a k (by omega) (by omega)
    have := set_next (bytesA a) k _ e
    rw [hlen, hW] at this
    rw [Int.toNat_natCast]
    refine Eq.trans ?_ this
    congr 4
    omega
  · have e := bytesA_hi a k (by omega) (by omega)
    have := set_next (bytesA a) k _ e
    rw [hlen, hW] at this
    rw [Int.toNat_natCast]
    refine Eq.trans ?_ this
    congr 4
    omega
  · refine ⟨(), trivial, by omega, ?_, trivial⟩
    rw [show k = W by omega, Nat.sub_self, List.take_of_length_le (by omega)]
    simp
theorem g_bytes : Good Try.prog 68 BytesS := good_of_owes hM hP GW0 Try.func68 rfl (o_bytes ▸ p_bytes)
theorem p_clone : T_clone := by
  intro x hx
  have hx : x.length ≤ 1000000 := hx
  refine ⟨fun h => ⟨(), trivial, h.symm, (List.length_eq_zero_iff.1 h).symm, trivial⟩, ⟨by omega, by omega⟩, (), trivial, by omega, rfl, trivial⟩
theorem g_clone : Good Try.prog 102 (CloneS u8K) := good_of_owes hM hP GW0 Try.func102 rfl (o_clone ▸ p_clone)
theorem padr_app (l m : List Bool) (h : (l ++ m).length ≤ 64) : valB (padr 64 (l ++ m)) = valB l * 2 ^ (64 - l.length) + valB m * 2 ^ (64 - l.length - m.length) := by
  rw [List.length_append] at h
  have e1 : m.length + (64 - (l.length + m.length)) = 64 - l.length := by omega
  have e2 : 64 - l.length - m.length = 64 - (l.length + m.length) := by omega
  unfold padr
  rw [valB_append, valB_append, List.length_replicate, valB_zeros, List.length_append, Nat.add_zero, Nat.add_mul, Nat.mul_assoc, ← Nat.pow_add, e1, e2]
theorem or_byte (l : List Bool) (k : Nat) (hk : k < 8) (hl : l.length = 8 * k) (c : Int) (h0 : 0 ≤ c) (h1 : c ≤ 255) :
    bits .or .u64 ((valB (padr 64 l) : Nat) : Int) (c * 2 ^ (56 - 8 * k) % 18446744073709551616) = ((valB (padr 64 (l ++ toB 8 c.toNat)) : Nat) : Int) := by
  obtain ⟨n, rfl⟩ := Int.eq_ofNat_of_zero_le h0
  have hn : n < 256 := by omega
  have hp : (2 : Nat) ^ (64 - 8 * k) = 256 * 2 ^ (56 - 8 * k) := by rw [show (256 : Nat) = 2 ^ 8 from rfl, ← Nat.pow_add]; congr 1; omega
  have hlt : n * 2 ^ (56 - 8 * k) < 2 ^ (64 - 8 * k) := by rw [hp]; exact Nat.mul_lt_mul_of_pos_right hn (Nat.two_pow_pos _)
  have hle : (2 : Nat) ^ (64 - 8 * k) ≤ 2 ^ 64 := Nat.pow_le_pow_right (by omega) (by omega)
  have e1 : ((n : Int) * 2 ^ (56 - 8 * k) % 18446744073709551616) = ((n * 2 ^ (56 - 8 * k) : Nat) : Int) := by
    have : ((n : Int) * 2 ^ (56 - 8 * k)) = ((n * 2 ^ (56 - 8 * k) : Nat) : Int) := by rw [Int.natCast_mul, Int.natCast_pow]; rfl
    rw [this]
    have h64 : (2 : Nat) ^ 64 = 18446744073709551616 := rfl
    omega
  have e2 := padr_app l [] (by simp; omega)
  have e3 := padr_app l (toB 8 n) (by rw [List.length_append, toB_length]; omega)
  rw [List.append_nil, hl, valB_nil, Nat.zero_mul, Nat.add_zero] at e2
  rw [hl, toB_length, valB_toB (by omega), show 64 - 8 * k - 8 = 56 - 8 * k by omega] at e3
  rw [e1, e2, Int.toNat_natCast, e3]
  refine or_join _ _ _ hlt ?_
  have := valB_lt l
  rw [hl] at this
  have h3 : (valB l + 1) * 2 ^ (64 - 8 * k) ≤ 2 ^ (8 * k) * 2 ^ (64 - 8 * k) := Nat.mul_le_mul_right _ this
  rw [← Nat.pow_add, show 8 * k + (64 - 8 * k) = 64 by omega, Nat.add_mul, Nat.one_mul] at h3
  have h64 : (2 : Nat) ^ 64 = 18446744073709551616 := rfl
  omega
theorem bitsL_take_succ (x : List Int) (k : Nat) (h : k < x.length) : bitsL (x.take (k + 1)) = bitsL (x.take k) ++ toB 8 (x.getD k 0).toNat := by
  rw [List.take_succ_eq_append_getElem h, bitsL_append]
  simp [bitsL, List.getD_eq_getElem?_getD, List.getElem?_eq_getElem h]
theorem bitsL_take_length (x : List Int) (k : Nat) (h : k ≤ x.length) : (bitsL (x.take k)).length = 8 * k := by rw [bitsL_length, List.length_take, Nat.min_eq_left h]
theorem fromE_ok {b : List Int} (h : b.length = 4 ∨ b.length = 16) : fromE b = (fromL b, 0) := if_pos h
theorem pad0 (x : List Int) : (0 : Int) = ((valB (padr 64 ((bitsL (x.take 0)).take 64)) : Nat) : Int) := by
  have : (bitsL (x.take 0)).take 64 = [] := by simp [bitsL]
  rw [this]; decide
theorem pad0' (x : List Int) : (0 : Int) = ((valB (padr 64 ((bitsL (x.take 0)).drop 64)) : Nat) : Int) := by
  have : (bitsL (x.take 0)).drop 64 = [] := by simp [bitsL]
  rw [this]; decide
theorem p_from : T_from := by
  intro x hx
  have hx : okB x := hx
  refine ifB_nn (fun h16 h4 => ?_) fun h416 => ?_
  · have e : fromE x = ((0, 0, false), 4) := if_neg (by omega)
    rw [e]
    exact ⟨(), trivial, rfl, rfl, rfl, rfl, trivial⟩
  have e := fromE_ok (b := x) (by omega)
  rw [e]
  refine ⟨fun q => ∃ k : Nat, q.1 = k ∧ k ≤ x.length ∧ q.2.1 = ((valB (padr 64 ((bitsL (x.take k)).take 64)) : Nat) : Int) ∧ q.2.2 = ((valB (padr 64 ((bitsL (x.take k)).drop 64)) : Nat) : Int), fun q => (x.length - q.1).toNat, ⟨(0, 0, 0), ⟨0, rfl, by omega, pad0 _, pad0' _⟩, rfl, rfl, rfl, trivial⟩, ?_⟩
  rintro ⟨_, _, _⟩ ⟨k, rfl, hk, rfl, rfl⟩
  simp only
  refine ifB_d (fun hlt => ?_) fun hge => ?_
  · have hlt : k < x.length := by omega
    have hb := okB_getD hx k
    have hbk := bitsL_take_length x k (by omega)
    have hs := bitsL_take_succ x k hlt
    have hnx : (∃ k' : Nat, ((k : Int) + 1) = k' ∧ k' ≤ x.length ∧ ((valB (padr 64 ((bitsL (x.take (k + 1))).take 64)) : Nat) : Int) = ((valB (padr 64 ((bitsL (x.take k')).take 64)) : Nat) : Int) ∧ ((valB (padr 64 ((bitsL (x.take (k + 1))).drop 64)) : Nat) : Int) = ((valB (padr 64 ((bitsL (x.take k')).drop 64)) : Nat) : Int)) := ⟨k + 1, by omega, by omega, rfl, rfl⟩
    refine ⟨by omega, by omega, by omega, ifB_d (fun h0 => ⟨by omega, by omega, by omega, ifB_d (fun _ => ⟨by omega, ((k : Int) + 1, ((valB (padr 64 ((bitsL (x.take (k + 1))).take 64)) : Nat) : Int), ((valB (padr 64 ((bitsL (x.take (k + 1))).drop 64)) : Nat) : Int)), hnx, by simp only; omega, rfl, ?_, ?_, trivial⟩) fun h1 => absurd h0 h1⟩) fun h0 => ifB_d (fun h1 => ⟨by omega, by omega, by omega, ifB_d (fun h1 => absurd h1 h0) fun _ => ifB_d (fun _ => ⟨by omega, ((k : Int) + 1, ((valB (padr 64 ((bitsL (x.take (k + 1))).take 64)) : Nat) : Int), ((valB (padr 64 ((bitsL (x.take (k + 1))).drop 64)) : Nat) : Int)), hnx, by simp only; omega, rfl, ?_, ?_, trivial⟩) fun h2 => absurd h1 h2⟩) fun h1 => by omega⟩
    · have hk8 : k < 8 := by omega
      have := or_byte ((bitsL (x.take k)).take 64) k hk8 (by rw [List.length_take]; omega) (x.getD k 0) hb.1 hb.2
      rw [Int.toNat_natCast, show min ((56 - (k : Int) * 8 % 64) % 18446744073709551616).toNat 64 = 56 - 8 * k by omega, this, hs]
      congr 3
      rw [List.take_of_length_le (l := bitsL (x.take k)) (by omega), List.take_of_length_le (l := bitsL (x.take k) ++ _) (by rw [List.length_append, toB_length]; omega)]
    · show ((valB (padr 64 ((bitsL (x.take k)).drop 64)) : Nat) : Int) = ((valB (padr 64 ((bitsL (x.take (k + 1))).drop 64)) : Nat) : Int)
      have d1 : (bitsL (x.take k)).drop 64 = [] := List.drop_eq_nil_of_le (by omega)
      have d2 : (bitsL (x.take k) ++ toB 8 (x.getD k 0).toNat).drop 64 = [] := List.drop_eq_nil_of_le (by rw [List.length_append, toB_length]; omega)
      rw [hs, d1, d2]
    · show ((valB (padr 64 ((bitsL (x.take k)).take 64)) : Nat) : Int) = ((valB (padr 64 ((bitsL (x.take (k + 1))).take 64)) : Nat) : Int)
      rw [hs, List.take_append_of_le_length (l₁ := bitsL (x.take k)) (by omega)]
    · have := or_byte ((bitsL (x.take k)).drop 64) (k - 8) (by omega) (by rw [List.length_drop]; omega) (x.getD k 0) hb.1 hb.2
      rw [Int.toNat_natCast, show min ((56 - (k : Int) * 8 % 64) % 18446744073709551616).toNat 64 = 56 - 8 * (k - 8) by omega, this, hs, List.drop_append_of_le_length (by omega)]
  · have hkl : k = x.length := by omega
    subst hkl
    rw [List.take_length]
    refine ⟨(), trivial, rfl, rfl, ?_, trivial, trivial⟩
    show decide ((x.length : Int) = 16) = decide (x.length = 16)
    rw [decide_eq_decide]
    omega
theorem g_from : Good Try.prog 100 FromS := good_of_owes hM hP GW0 Try.func100 rfl (o_from ▸ p_from)
theorem GW1 : Goods Try.prog W1 := goods_cons g_bytes (goods_cons g_from (goods_cons g_clone GW0))
theorem putP_sane {p : Pf} (h : saneP p = true) (m : Int) (hm : m = if p.2.2.1 = true then 6 else 4) (b : List Int) : b ++ [m, p.2.2.2 % 256] ++ ((bytesA (pA p)).take (longZ p.2.2.2)).drop 0 = b ++ putP p := by
  obtain ⟨_, h0, h1⟩ := sane_iff.1 h
  have := wd_le p.2.2.1
  unfold putP
  rw [if_pos h, hm, Int.emod_eq_of_lt (by omega) (by omega), List.append_assoc]
  rfl
theorem putP_bad {p : Pf} (h : saneP p = false) : putP p = [] := by unfold putP; rw [if_neg (by simp [h])]
theorem p_put : T_put := by
  rintro ⟨b, p⟩ ⟨hb, hp⟩
  have hb : b.length ≤ 1000000 := hb
  refine ⟨b, rfl, rfl, hb, fun _ _ => ⟨p, rfl, rfl, rfl, rfl, hp, fun _ _ => ?_⟩⟩
  cases hs : saneP p with
  | false => exact ⟨(), trivial, by rw [putP_bad hs, List.append_nil], by rw [putP_bad hs, List.append_nil], trivial⟩
  | true =>
    obtain ⟨_, h0, h1⟩ := sane_iff.1 hs
    have hw := wd_le p.2.2.1
    have hl := longZ_le h1
    have hlb := bytesA_length (pA p)
    have hn : ((p.2.2.2 + 8 - 1) / 8).toNat = longZ p.2.2.2 := by unfold longZ; omega
    have ht := List.length_take (l := bytesA (pA p)) (i := longZ p.2.2.2)
    have fin : ∀ m : Int, m = (if p.2.2.1 = true then (6 : Int) else 4) → b.length + [m, p.2.2.2 % 256].length + (((bytesA (pA p)).take (longZ p.2.2.2)).drop 0).length = (b ++ putP p).length := fun m hm => by
      rw [← putP_sane hs m hm b, List.length_append, List.length_append]
    dsimp only
    refine ifB_b (c := p.2.2.1) (fun h6 => ?_) fun h4 => ?_
    · have h6 : p.2.2.1 = true := h6
      have hm : (6 : Int) = if p.2.2.1 = true then (6 : Int) else 4 := by rw [if_pos h6]
      refine ⟨⟨by simp; omega, by simp; omega⟩, pA p, rfl, rfl, rfl, hp, fun _ _ => ⟨by omega, by omega, by omega, by rw [hlb]; simp only; rw [h6] at h1 ⊢; simp [wd] at h1 ⊢; omega, ?_, (), trivial, ?_, ?_, trivial⟩⟩
      · simp only [hn, List.drop_zero, ht, List.length_cons, List.length_nil]; omega
      · simp only [hn]; exact fin 6 hm
      · simp only [hn]; exact putP_sane hs 6 hm b
    · have h4 : p.2.2.1 = false := h4
      have hm : (4 : Int) = if p.2.2.1 = true then (6 : Int) else 4 := by rw [if_neg (by simp [h4])]
      refine ⟨⟨by simp; omega, by simp; omega⟩, pA p, rfl, rfl, rfl, hp, fun _ _ => ⟨by omega, by omega, by omega, by rw [hlb]; simp only; rw [h4] at h1 ⊢; simp [wd] at h1 ⊢; omega, ?_, (), trivial, ?_, ?_, trivial⟩⟩
      · simp only [hn, List.drop_zero, ht, List.length_cons, List.length_nil]; omega
      · simp only [hn]; exact fin 4 hm
      · simp only [hn]; exact putP_sane hs 4 hm b
theorem g_put : Good Try.prog 73 PutS := good_of_owes hM hP GW1 Try.func73 rfl (o_put ▸ p_put)
theorem p_good : T_good := by
  intro r hr
  obtain ⟨hi, lo, v6, n, hop⟩ := r
  refine ifB_d (fun h => ifB_d (fun h1 => ⟨(hi, lo, v6, n), rfl, rfl, rfl, rfl, hr, fun _ _ => ⟨(), trivial, ?_, trivial⟩⟩) fun h1 => ⟨(), trivial, ?_, trivial⟩) fun h => ⟨(), trivial, ?_, trivial⟩
  · simp only at h h1
    simp [goodR, h, h1, rP]
  · simp only at h h1
    simp [goodR, h, h1]
  · simp only at h
    simp [goodR, h]
theorem g_good : Good Try.prog 43 GoodS := good_of_owes hM hP GW1 Try.func43 rfl (o_good ▸ p_good)
theorem mid_whole (v6 : Bool) (ys : List Int) (h : ys.length ≤ wd v6 / 8) : mid (List.replicate (wd v6 / 8) (0 : Int)) 0 (ys.take (min ys.length (wd v6 / 8))) = wholeB v6 ys := by
  rw [Nat.min_eq_left h, List.take_length]
  unfold mid wholeB
  rw [List.take_zero, List.nil_append, List.drop_replicate, Nat.zero_add]
theorem p_get : T_get := by
  rintro x ⟨hx, hl⟩
  have hx : okB x := hx
  have hl : x.length ≤ 1000000 := hl
  refine ifB_d (fun h2 => ?_) fun h2 => ⟨by omega, ifB_nno (fun _ => by omega) (fun h4 h6 => ?_) fun h46 => ?_⟩
  · have e : getP x = (zP, 0, 6) := if_pos (by omega)
    rw [e]
    exact ⟨(), trivial, rfl, rfl, rfl, rfl, rfl, rfl, trivial⟩
  · have e : getP x = (zP, 0, 5) := by unfold getP; rw [if_neg (by omega), if_pos ⟨h4, h6⟩]
    rw [e]
    exact ⟨(), trivial, rfl, rfl, rfl, rfl, rfl, rfl, trivial⟩
  have b1 := okB_getD hx 1
  have hn : x.getD 1 0 + 8 - 1 = x.getD 1 0 + 7 := by omega
  have hz : (((x.getD 1 0 + 7) / 8 : Int)) = (longZ (x.getD 1 0) : Int) := by unfold longZ; omega
  refine ⟨by omega, by omega, decide (x.getD 0 0 = 6), rfl, trivial, fun _ _ => ifB_d (fun h3 => ?_) fun h3 => ⟨by omega, by omega, by omega, by omega, ifB_d (fun h5 => ?_) fun h5 => ?_⟩⟩
  · have e : getP x = (zP, 0, 1) := by unfold getP; rw [if_neg (by omega), if_neg (by omega), if_pos h3]
    rw [e]
    exact ⟨(), trivial, rfl, rfl, rfl, rfl, rfl, rfl, trivial⟩
  · rw [hn, hz] at h5
    have e : getP x = (zP, 0, 6) := by unfold getP; rw [if_neg (by omega), if_neg (by omega), if_neg h3, if_pos (by omega)]
    rw [e]
    exact ⟨(), trivial, rfl, rfl, rfl, rfl, rfl, rfl, trivial⟩
  rw [hn, hz] at h5
  simp only [hn, hz]
  generalize hv : decide (x.getD 0 0 = 6) = v6 at *
  have hlz := longZ_le (n := x.getD 1 0) (v6 := v6) (by omega)
  have hwb := wd_bytes v6
  have hwl := wd_le v6
  have ew : ((wd v6 : Int) / 8).toNat = wd v6 / 8 := by omega
  have e2 : List.drop 2 (List.take (2 + (longZ (x.getD 1 0) : Int)).toNat x) = (x.drop 2).take (longZ (x.getD 1 0)) := by rw [List.drop_take]; congr 1; omega
  have hly : ((x.drop 2).take (longZ (x.getD 1 0))).length ≤ wd v6 / 8 := by rw [List.length_take]; omega
  have em := mid_whole v6 _ hly
  have hlen : (wholeB v6 ((x.drop 2).take (longZ (x.getD 1 0)))).length = wd v6 / 8 := by
    unfold wholeB
    rw [List.length_append, List.length_replicate]
    omega
  have h416 : wd v6 / 8 = 4 ∨ wd v6 / 8 = 16 := by cases v6 <;> simp [wd]
  have hok : okB (wholeB v6 ((x.drop 2).take (longZ (x.getD 1 0)))) := okB_append (okB_take (okB_drop hx 2) _) (okB_zeros _)
  have hf := fromE_ok (b := wholeB v6 ((x.drop 2).take (longZ (x.getD 1 0)))) (by rw [hlen]; exact h416)
  have hg : getP x = if saneP (mkP (fromL (wholeB v6 ((x.drop 2).take (longZ (x.getD 1 0))))) (x.getD 1 0)) = true then (mkP (fromL (wholeB v6 ((x.drop 2).take (longZ (x.getD 1 0))))) (x.getD 1 0), 2 + (longZ (x.getD 1 0) : Int), 0) else (zP, 0, 1) := by
    unfold getP
    rw [hv, if_neg (by omega), if_neg (by omega), if_neg h3, if_neg (by omega)]
  refine ⟨⟨by omega, by omega⟩, ⟨by omega, by omega, by omega, by omega⟩, ⟨by omega, by omega, by omega⟩, wholeB v6 ((x.drop 2).take (longZ (x.getD 1 0))), by rw [hlen, ew], by rw [ew, e2, em], hok, fun _ _ => ?_⟩
  rw [hf]
  refine ⟨mkP (fromL (wholeB v6 ((x.drop 2).take (longZ (x.getD 1 0))))) (x.getD 1 0), rfl, rfl, rfl, rfl, ?_, fun _ _ => ?_⟩
  · show wfA (fromL _)
    exact wfA_ofB _ (by rw [bitsL_length, hlen]; omega)
  rw [hg]
  refine ifB_b (fun h => ?_) fun h => ?_
  · rw [if_pos h]
    exact ⟨(), trivial, rfl, rfl, rfl, rfl, rfl, rfl, trivial⟩
  · rw [if_neg (by rw [h]; decide)]
    exact ⟨(), trivial, rfl, rfl, rfl, rfl, rfl, rfl, trivial⟩
theorem g_get : Good Try.prog 45 GetS := good_of_owes hM hP GW1 Try.func45 rfl (o_get ▸ p_get)
theorem GW2 : Goods Try.prog W2 := goods_cons g_put (goods_cons g_get (goods_cons g_good GW1))
theorem putP_length_le (p : Pf) : (putP p).length ≤ 18 := by
  cases hs : saneP p with
  | false => rw [putP_bad hs]; simp
  | true =>
    have := putP_length hs
    obtain ⟨_, h0, h1⟩ := sane_iff.1 hs
    have := wd_le p.2.2.1
    have := longZ_le h1
    omega
theorem putR_bad {r : Rt} (h : goodR r = false) : putR r = [] := by unfold putR; rw [if_neg (by simp [h])]
theorem putR_length_le (r : Rt) : (putR r).length ≤ 20 := by
  unfold putR
  split
  · have := putP_length_le (rP r)
    simp; omega
  · simp
theorem p_putroute : T_putroute := by
  rintro ⟨b, r⟩ ⟨hb, hr⟩
  have hb : b.length ≤ 1000000 := hb
  refine ⟨r, rfl, rfl, rfl, rfl, rfl, hr, fun _ _ => ?_⟩
  cases hg : goodR r with
  | false => exact ⟨b, rfl, rfl, hb, fun _ _ => ⟨(), trivial, by rw [putR_bad hg, List.append_nil], by rw [putR_bad hg, List.append_nil], trivial⟩⟩
  | true =>
    obtain ⟨h0, h1, hs⟩ := goodR_iff.1 hg
    have hlp := putP_length_le (rP r)
    have e : b ++ putP (rP r) ++ [r.2.2.2.2 / 256 % 256, r.2.2.2.2 % 256] = b ++ putR r := by
      unfold putR
      rw [if_pos hg, List.append_assoc, Int.emod_eq_of_lt (a := r.2.2.2.2 / 256) (by omega) (by omega)]
    refine ⟨by omega, and_self_of ⟨(b, rP r), rfl, rfl, rfl, rfl, rfl, rfl, ⟨hb, hr⟩, fun _ _ => ⟨⟨?_, ?_⟩, (), trivial, ?_, e, trivial⟩⟩⟩
    · simp; omega
    · simp; omega
    · rw [← List.length_append]; exact congrArg List.length e
theorem g_putroute : Good Try.prog 44 PutRouteS := good_of_owes hM hP GW2 Try.func44 rfl (o_putroute ▸ p_putroute)
theorem or_hop (a b : Int) (ha : 0 ≤ a ∧ a ≤ 255) (hb : 0 ≤ b ∧ b ≤ 255) : bits .or .i64 (a * 256) b = a * 256 + b := by
  obtain ⟨x, rfl⟩ := Int.eq_ofNat_of_zero_le ha.1
  obtain ⟨y, rfl⟩ := Int.eq_ofNat_of_zero_le hb.1
  have := i64_or_nat (x * 256) y (by omega) (by omega)
  have h2 := Nat.shiftLeft_add_eq_or_of_lt (i := 8) (b := y) (by omega) x
  rw [Nat.shiftLeft_eq] at h2
  rw [show (x : Int) * 256 = ((x * 256 : Nat) : Int) by omega, this, show x * 256 = x * 2 ^ 8 from rfl, ← h2]
  omega
theorem p_getroute : T_getroute := by
  rintro x ⟨hx, hl⟩
  have hx : okB x := hx
  have hl : x.length ≤ 1000000 := hl
  refine ⟨x, rfl, rfl, ⟨hx, hl⟩, fun _ _ => ifB_nd (fun h => ?_) fun h => ?_⟩
  · have e : getR x = (zR, 0, (getP x).2.2) := if_pos h
    rw [e]
    exact ⟨(), trivial, rfl, rfl, rfl, rfl, rfl, rfl, rfl, trivial⟩
  · obtain ⟨h1, h2, h3, h4, h5⟩ := getP_ok hx h
    refine ⟨⟨by omega, by omega⟩, ifB_d (fun hs => ?_) fun hs => ?_⟩
    · have e : getR x = (zR, 0, 6) := by unfold getR; rw [if_neg (by simp [h]), if_pos (by omega)]
      rw [e]
      exact ⟨(), trivial, rfl, rfl, rfl, rfl, rfl, rfl, rfl, trivial⟩
    · have e : getR x = (mkR (getP x).1 (x.getD (getP x).2.1.toNat 0 * 256 + x.getD ((getP x).2.1.toNat + 1) 0), (getP x).2.1 + 2, 0) := by unfold getR; rw [if_neg (by simp [h]), if_neg (by omega)]
      have b0 := okB_getD hx (getP x).2.1.toNat
      have b1 := okB_getD hx ((getP x).2.1.toNat + 1)
      rw [e]
      simp only [Nat.add_zero]
      exact ⟨by omega, by omega, by omega, by omega, by omega, (), trivial, trivial, trivial, trivial, trivial, or_hop _ _ b0 b1, trivial, trivial, trivial⟩
theorem g_getroute : Good Try.prog 46 GetRouteS := good_of_owes hM hP GW2 Try.func46 rfl (o_getroute ▸ p_getroute)
theorem GW3 : Goods Try.prog W3 := goods_cons g_putroute (goods_cons g_getroute GW2)
theorem putAllL_take (l : List Rt) (k : Nat) (h : k < l.length) (z : Rt) : putAllL (l.take (k + 1)) = putAllL (l.take k) ++ putR (l.getD k z) := by
  have e : l.getD k z = l[k] := by rw [List.getD_eq_getElem?_getD, List.getElem?_eq_getElem h]; rfl
  rw [List.take_succ_eq_append_getElem h, e]
  unfold putAllL
  rw [List.flatMap_append, List.flatMap_cons, List.flatMap_nil, List.append_nil]
theorem putAllL_le (l : List Rt) : (putAllL l).length ≤ 20 * l.length := by
  induction l with
  | nil => simp [putAllL]
  | cons r l ih =>
    have := putR_length_le r
    have e : putAllL (r :: l) = putR r ++ putAllL l := rfl
    rw [e, List.length_append, List.length_cons]
    omega
theorem p_putall : T_putall := by
  rintro l ⟨hl, hw⟩
  have hl : l.length ≤ 5000 := hl
  have hw : ∀ r ∈ l, wfR r := hw
  refine ⟨fun q => ∃ k : Nat, q.1 = k ∧ k ≤ l.length ∧ q.2 = putAllL (l.take k), fun q => (l.length - q.1).toNat, ⟨(0, []), ⟨0, rfl, by omega, by simp [putAllL]⟩, rfl, rfl, rfl, trivial⟩, ?_⟩
  rintro ⟨_, _⟩ ⟨k, rfl, hk, rfl⟩
  simp only
  refine ifB_d (fun hlt => ?_) fun hge => ?_
  · have hlt : k < l.length := by omega
    have hle := putAllL_le (l.take k)
    rw [List.length_take] at hle
    have hm : l.getD k (0, 0, false, 0, 0) ∈ l := by rw [List.getD_eq_getElem?_getD, List.getElem?_eq_getElem hlt]; exact List.getElem_mem hlt
    refine ⟨by omega, (putAllL (l.take k), l.getD k (0, 0, false, 0, 0)), rfl, rfl, rfl, rfl, rfl, rfl, rfl, ⟨by show _ ≤ 1000000; simp only; omega, hw _ hm⟩, fun _ _ => ⟨by omega, ((k : Int) + 1, putAllL (l.take (k + 1))), ⟨k + 1, by simp only; omega, by omega, rfl⟩, by simp only; omega, rfl, ?_, ?_, trivial⟩⟩
    · rw [← putAllL_take l k hlt]
    · rw [← putAllL_take l k hlt]
  · rw [show k = l.length by omega, List.take_length]
    exact ⟨(), trivial, rfl, rfl, trivial⟩
theorem g_putall : Good Try.prog 77 PutAllS := good_of_owes hM hP GW3 Try.func77 rfl (o_putall ▸ p_putall)
theorem getAll_app {pre : List Rt} {b : List Int} (h : (getAllL b).2 = 0 ∨ True) : True := trivial
theorem p_getall : T_getall := by
  rintro b ⟨hb, hl⟩
  have hb : okB b := hb
  have hl : b.length ≤ 1000000 := hl
  refine ⟨fun q => q.2.1 = b.length ∧ q.1 ≤ b.length ∧ q.2.2.length ≤ q.1 ∧ ((getAllL (b.drop q.1)).2 ≠ 0 → getAllL b = ([], (getAllL (b.drop q.1)).2)) ∧ ((getAllL (b.drop q.1)).2 = 0 → getAllL b = (q.2.2 ++ (getAllL (b.drop q.1)).1, 0)), fun q => b.length - q.1, ⟨(0, b.length, []), ⟨rfl, by omega, by simp, fun h => ?_, fun h => ?_⟩, rfl, rfl, rfl, rfl, trivial⟩, ?_⟩
  · rw [List.drop_zero] at h ⊢
    exact Prod.ext (getAll_bad _ hb (Nat.le_refl _) h) rfl
  · rw [List.drop_zero] at h ⊢
    exact Prod.ext rfl h
  rintro ⟨at_, _, out⟩ ⟨rfl, ha, ho, hbad, hok⟩
  simp only at ha ho hbad hok ⊢
  refine ifB_d (fun hlt => ?_) fun hge => ?_
  · have hlt : at_ < b.length := by omega
    have hbd := okB_drop hb at_
    have hst := getAllL_step hbd (by rw [List.length_drop]; omega)
    refine ⟨b.drop at_, by rw [List.length_drop], by rw [List.take_length], ⟨hbd, by show _ ≤ 1000000; rw [List.length_drop]; omega⟩, fun _ _ => ifB_nd (fun h => ?_) fun h => ?_⟩
    · rw [if_pos h] at hst
      have := hbad (by rw [hst]; exact h)
      rw [this, hst]
      exact ⟨(), trivial, rfl, rfl, rfl, trivial⟩
    · obtain ⟨h1, h2, h3, h4, h5⟩ := getR_ok hbd h
      obtain ⟨h6, h7⟩ := getR_rest hbd h
      rw [if_neg (by simp [h])] at hst
      rw [List.length_drop] at h5
      refine ⟨⟨by omega, by omega⟩, ⟨by simp; omega, by simp; omega⟩, (at_ + (getR (b.drop at_)).2.1.toNat, b.length, out ++ [(getR (b.drop at_)).1]), ⟨rfl, by simp only; omega, by simp only [List.length_append, List.length_cons, List.length_nil]; omega, fun hb2 => ?_, fun hb2 => ?_⟩, by simp only; omega, rfl, rfl, by simp, rfl, trivial⟩
      · simp only [← List.drop_drop] at hb2 ⊢
        rw [if_pos hb2] at hst
        rw [hbad (by rw [hst]; exact hb2), hst]
      · simp only [← List.drop_drop] at hb2 ⊢
        rw [if_neg (fun h => h hb2)] at hst
        have h0 : (getAllL (b.drop at_)).2 = 0 := by rw [hst]
        rw [hok h0, hst]
        simp
  · have : b.drop at_ = [] := List.drop_eq_nil_of_le (by omega)
    rw [this, getAllL_nil] at hok
    have := hok rfl
    rw [this]
    simp only [List.append_nil]
    exact ⟨(), trivial, trivial, trivial, trivial, trivial⟩
theorem g_getall : Good Try.prog 48 GetAllS := good_of_owes hM hP GW3 Try.func48 rfl (o_getall ▸ p_getall)
theorem GW4 : Goods Try.prog W4 := goods_cons g_putall (goods_cons g_getall GW3)
end Sp
