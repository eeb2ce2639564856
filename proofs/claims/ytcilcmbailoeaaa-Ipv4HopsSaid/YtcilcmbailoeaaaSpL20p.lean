/- Contracts kept: laws of layer 20, first half. -/
import Derived.Test.YtcilcmbailoeaaaSpM20
import Derived.Test.YtcilcmbailoeaaaSpL20a
set_option linter.all false
set_option maxRecDepth 10000
namespace Sp
open Go Go.Proofs Sx Go.Proofs.Ytcilcmbailoeaaa.Ma
def aAd : Ad := (fromE [10, 0, 0, 1]).1
def aH (t : Int) : Hd := mkH 0 0 t 0 aAd aAd
theorem okB_aB (t : Int) : okB (build4 (aH t) [120]) := okB_build4 _ (by intro x hx; simp at hx; omega)
theorem p_aw20 : T_aw20 := by
  intro _ _
  have o1 : okB [10, 0, 0, 1] := by intro x hx; simp at hx; omega
  have w1 : wfA aAd := by constructor <;> constructor <;> decide +kernel
  have k1 : okB [120] := by intro x hx; simp at hx; omega
  refine ⟨[10, 0, 0, 1], rfl, rfl, o1, fun _ _ => ⟨by omega, (aH 1, [120]), rfl, rfl, rfl, rfl, rfl, rfl, rfl, rfl, rfl, rfl, rfl, rfl, ⟨⟨w1, w1⟩, k1⟩, fun _ _ => ⟨by omega, (aH 2, [120]), rfl, rfl, rfl, rfl, rfl, rfl, rfl, rfl, rfl, rfl, rfl, rfl, ⟨⟨w1, w1⟩, k1⟩, fun _ _ => ⟨_, rfl, rfl, okB_aB 1, fun _ _ => ⟨_, rfl, rfl, ⟨okB_aB 1, by decide +kernel⟩, fun _ _ => ⟨_, rfl, rfl, ⟨okB_aB 2, by decide +kernel⟩, fun _ _ => ?_⟩⟩⟩⟩⟩⟩
  refine ifB_eq (by decide +kernel) (ifB_eq (by decide +kernel) (ifB_tb (by decide +kernel) (ifB_nb' (by decide +kernel) (ifB_tb (by decide +kernel) ⟨(), trivial, by decide +kernel, trivial⟩))))
theorem p_wrong4 : T_wrong4 := by
  rintro ⟨b, k⟩ hb
  dsimp only at hb ⊢
  have hb : okB b := hb
  refine ⟨(), trivial, fun _ _ => ⟨b, rfl, rfl, hb, fun _ _ => ifB_d (fun _ => ⟨(), trivial, rfl, trivial⟩) fun hl => ifB_nd (fun _ => ⟨(), trivial, rfl, trivial⟩) fun h => ?_⟩⟩
  obtain ⟨e1, e2, e3, e4, e5, e6, e7, e8, e9⟩ := parse4_ok h
  have hL : (readH b).1 ≤ 60 := by have := okB_getD hb 0; show b.getD 0 0 % 16 * 4 ≤ 60; omega
  rw [e1, i64_and65535]
  refine ifB_d (fun _ => ⟨(), trivial, rfl, trivial⟩) fun _ => ifB_d (fun _ => ⟨(), trivial, rfl, trivial⟩) fun _ => ?_
  generalize hn : k % 65536 % ((readH b).1 * 8) = n at *
  have hn0 : 0 ≤ n ∧ n < (readH b).1 * 8 := by rw [← hn]; exact ⟨Int.emod_nonneg _ (by omega), Int.emod_lt_of_pos _ (by omega)⟩
  have e0 : n / 8 = ((n / 8).toNat : Int) := by omega
  have ee : ∃ e : Nat, e < 8 ∧ (7 - n % 8) % 18446744073709551616 = e := ⟨(7 - n % 8).toNat, by omega, by omega⟩
  obtain ⟨e, he, hee⟩ := ee
  rw [hee, Int.toNat_natCast, Nat.min_eq_left (by omega)]
  have hy := okB_getD hb (n / 8).toNat
  have hx := xor_turn (b.getD (n / 8).toNat 0).toNat (by omega) e he
  rw [Int.toNat_of_nonneg hy.1] at hx
  have hp := pow_small e he
  have hw := parse4_turn (i := (n / 8).toNat) h (by omega) hx.2 hp
  simp only [List.nil_append]
  refine ⟨by omega, by omega, by omega, by omega, by omega, by omega, by omega, by omega, by omega, by omega, _, by rw [List.length_set]; omega, rfl, okB_set hb _ hx.1, fun _ _ => ifB_nd (fun c => ?_) fun c => ?_⟩
  · rw [(parse4_bad c).1]
    exact ifB_tb (by decide) (by first | exact ⟨(), trivial, rfl, trivial⟩ | simp)
  · refine ⟨(), trivial, ?_, trivial⟩
    have := hw.resolve_left (by omega)
    simpa using this
theorem p_long4 : T_long4 := by
  rintro ⟨b, m⟩ ⟨hb, hm⟩
  dsimp only at hb hm ⊢
  have hb : okB b := hb
  have hm : okB m := hm
  refine ⟨(), trivial, fun _ _ => ifB_d (fun _ => ⟨(), trivial, rfl, trivial⟩) fun hl => ifB_d (fun _ => ⟨(), trivial, rfl, trivial⟩) fun hl2 => ⟨b, rfl, rfl, hb, fun _ _ => ifB_nd (fun c => ?_) fun h => ?_⟩⟩
  · obtain ⟨q1, q2, q3⟩ := parse4_bad c
    rw [q1]
    exact ifB_tb (by decide) (ifB_eq q2 ⟨(), trivial, by simpa using q3, trivial⟩)
  obtain ⟨e1, e2, e3, e4, e5, e6, e7, e8, e9⟩ := parse4_ok h
  have ht := okB_getD hb 8
  have h8 : (readH b).2.2.1 = b.getD 8 0 := rfl
  rw [e1]
  have hx := parse4_ext (c := b.take (readH b).2.1.toNat ++ m) h (by rw [List.take_append_of_le_length (by rw [List.length_take]; omega), List.take_take, Nat.min_self]) (by rw [List.length_append, List.length_take]; omega)
  have hc := parse4_cut h
  have hlt : (b.take (readH b).2.1.toNat).length = (readH b).2.1.toNat := by rw [List.length_take]; omega
  have e7' : ((readH b).2.1 - 1).toNat = (readH b).2.1.toNat - 1 := by omega
  simp only [List.nil_append, List.drop_zero, e7', hlt]
  refine ifB_d (fun k => by omega) fun _ => ifB_d (fun k => by omega) fun _ => ifB_d (fun k => by omega) fun _ => ifB_d (fun k => by omega) fun _ => ifB_d (fun k => by omega) fun _ => ⟨by omega, by omega, by omega, _, by rw [List.length_append, hlt]; omega, rfl, okB_append (okB_take hb _) hm, fun _ _ => ⟨by omega, by omega, _, by rw [List.length_take]; omega, rfl, okB_take hb _, fun _ _ => ?_⟩⟩
  rw [hx]
  refine ifB_eq rfl (ifB_tb (by simp) ?_)
  rw [hc]
  by_cases c1 : (readH b).2.1 = 20
  · rw [if_pos c1]
    exact ifB_d (fun k => absurd k (by decide)) fun _ => ifB_eq rfl (ifB_eq c1 (by first | exact ⟨(), trivial, rfl, trivial⟩ | simp))
  rw [if_neg c1]
  by_cases c2 : (readH b).2.1 = (readH b).1
  · rw [if_pos c2]
    exact ifB_d (fun k => absurd k (by decide)) fun _ => ifB_d (fun k => absurd k (by decide)) fun _ => ifB_eq rfl ⟨(), trivial, by simpa using c2, trivial⟩
  · rw [if_neg c2]
    exact ifB_eq rfl (by first | exact ⟨(), trivial, rfl, trivial⟩ | simp)
end Sp
