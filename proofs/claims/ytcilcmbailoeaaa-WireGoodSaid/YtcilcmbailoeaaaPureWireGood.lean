import Derived.Test.YtcilcmbailoeaaaKWx8
import Derived.Test.YtcilcmbailoeaaaLemW
namespace Go.Proofs.Ytcilcmbailoeaaa.Pure
open Go.RowKit Go.Proofs.Ytcilcmbailoeaaa.KW Go.Proofs.YtcilcmbailoeaaaW.PrintWords Go.Proofs.YtcilcmbailoeaaaW.PrintLast
theorem or_i64 (x y : Int) (hx : 0 ≤ x ∧ x ≤ 255) (hy : 0 ≤ y ∧ y ≤ 255) : Go.bits .or .i64 (x * 256) y = x * 256 + y := by
  obtain ⟨a, rfl⟩ : ∃ a : Nat, x = (a : Int) := ⟨x.toNat, by omega⟩
  obtain ⟨b, rfl⟩ : ∃ b : Nat, y = (b : Int) := ⟨y.toNat, by omega⟩
  have hm : (BitVec.ofInt 64 ((a : Int) * 256) ||| BitVec.ofInt 64 (b : Int)).toNat = a * 256 + b := by
    rw [BitVec.toNat_or, BitVec.toNat_ofInt, BitVec.toNat_ofInt]
    have e1 : ((a : Int) * 256 % ((2 ^ 64 : Nat) : Int)).toNat = a * 256 := by omega
    have e2 : ((b : Int) % ((2 ^ 64 : Nat) : Int)).toNat = b := by omega
    rw [e1, e2]
    have := Nat.two_pow_add_eq_or_of_lt (i := 8) (b := b) (by omega) a
    rw [show a * 256 = 2 ^ 8 * a from by omega, ← this]
  show IntKind.i64.wrap (((BitVec.ofInt 64 ((a : Int) * 256) ||| BitVec.ofInt 64 (b : Int)).toNat : Nat) : Int) = _
  rw [hm, IntWalk.i64_in _ (by omega)]
  omega
/-- What a reading of a prefix comes to: none, or one that may be. -/
def Got (l : List Int) (r : Int × Int × Bool × Int × Int × Int) : Prop :=
  (∃ e, e ≠ 0 ∧ r = (0, 0, false, 0, 0, e)) ∨ (∃ hi lo v n m, r = (hi, lo, v, n, m, 0) ∧ prefix_Sane.f hi lo v n = some true ∧ 2 ≤ m ∧ m ≤ 18 ∧ m ≤ l.length)
theorem got_rest (v : Bool) (l : List Int) (n : Int) (hk : okby l) (_h2 : 2 ≤ l.length) (hn : 0 ≤ n ∧ n ≤ 255) : ∃ r, get_rest v l n = some r ∧ Got l r := by
  unfold get_rest
  by_cases c1 : (if v = true then (128 : Int) else 32) < n
  · simp only [if_pos c1]
    exact ⟨_, rfl, .inl ⟨1, by omega, rfl⟩⟩
  simp only [if_neg c1]
  have c1' : n ≤ 128 := by
    split at c1 <;> omega
  by_cases c2 : (l.length : Int) < 2 + (n + 7) / 8
  · rw [if_pos c2]
    exact ⟨_, rfl, .inl ⟨6, by omega, rfl⟩⟩
  rw [if_neg c2]
  obtain ⟨a, ha, ha1, ha2⟩ := from_ok (splice_okby (if v = true then 16 else 4) (okby_take (okby_drop hk 2) ((n + 7) / 8).toNat))
  obtain ⟨s, hs⟩ := sane_ok a.1 a.2.1 a.2.2.1 n ha1 ha2
  rw [ha, Option.bind_some, hs, Option.bind_some]
  cases s with
  | false => exact ⟨_, rfl, .inl ⟨1, by omega, rfl⟩⟩
  | true => exact ⟨_, rfl, .inr ⟨a.1, a.2.1, a.2.2.1, n, _, rfl, hs, by omega, by omega, by omega⟩⟩
theorem got_is (l : List Int) (hk : okby l) : ∃ r, wire_Get.f l = some r ∧ Got l r := by
  unfold wire_Get.f
  rw [if_pos hk]
  by_cases c1 : l.length < 2
  · rw [if_pos c1]
    exact ⟨_, rfl, .inl ⟨6, by omega, rfl⟩⟩
  rw [if_neg c1]
  by_cases c6 : rd l 0 = 6
  · rw [if_pos c6]
    exact got_rest true l (rd l 1) hk (by omega) (rd_okby hk 1)
  rw [if_neg c6]
  by_cases c4 : rd l 0 = 4
  · rw [if_pos c4]
    exact got_rest false l (rd l 1) hk (by omega) (rd_okby hk 1)
  rw [if_neg c4]
  exact ⟨_, rfl, .inl ⟨5, by omega, rfl⟩⟩
theorem WireGood : kedgelaw04_WireGood.Pure := by
  intro l _ _ hb
  have hk := okby_of hb
  unfold kedgelaw04_WireGood.f
  rw [awake_is, Option.bind_some]
  by_cases c : (l.length : Int) > 1000
  · rw [if_pos c]
  rw [if_neg c]
  obtain ⟨g, hg, hG⟩ := got_is l hk
  rw [hg, Option.bind_some]
  unfold wire_GetRoute.f
  rw [hg, Option.bind_some]
  rcases hG with ⟨e, he, rfl⟩ | ⟨hi, lo, v, n, m, rfl, hs, m2, m18, ml⟩
  · simp [he]
  · simp only [↓reduceIte]
    rw [if_pos (by omega), if_pos ml]
    by_cases c2 : ((l.drop m.toNat).length : Int) < 2
    · rw [if_pos c2, Option.bind_some, hs, Option.bind_some]
      simp only [↓reduceIte]
      rw [if_neg (by omega), if_neg (by omega), if_neg (by omega)]
      simp
    · rw [if_neg c2, if_pos (by omega), if_pos (by omega), Option.bind_some, hs, Option.bind_some]
      simp only [↓reduceIte]
      rw [if_neg (by omega), if_neg (by omega), if_neg (by omega)]
      have b0 := rd_okby (okby_drop hk m.toNat) 0
      have b1 := rd_okby (okby_drop hk m.toNat) 1
      rw [List.length_drop] at c2
      rw [w64_in (rd _ 0) (by omega), w64_in (rd _ 1) (by omega), w64_in (rd _ 0 * 256) (by omega), or_i64 _ _ b0 b1]
      unfold wire_Good.f
      rw [if_pos (by omega), if_pos (by omega), hs]
      simp only [Option.bind_some, ↓reduceIte, w64_in (m + 2) (by omega)]
      rw [if_neg (by simp), if_neg (by omega)]
end Go.Proofs.Ytcilcmbailoeaaa.Pure
