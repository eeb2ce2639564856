/- Contracts kept: laws of layer 20, second half. -/
import Derived.Test.YtcilcmbailoeaaaSpL20p
import Derived.Test.YtcilcmbailoeaaaSpL20b
import Derived.Test.YtcilcmbailoeaaaSpL20c
set_option linter.all false
set_option maxRecDepth 10000
namespace Sp
open Go Go.Proofs Sx Go.Proofs.Ytcilcmbailoeaaa.Ma
theorem okB_addr4' (a : Ad) : okB (addr4 a) ∧ ((addr4 a).length = 4 ∨ (addr4 a).length = 16) := ⟨okB_addr4 a, .inl (addr4_length a)⟩
theorem bytes_addr4 {a : Ad} (h : a.2.2 = false) : bytesA (fromL (addr4 a)) = bytesA a := by
  rw [bytesA_fromL (okB_addr4 a) (.inl (addr4_length a))]
  unfold addr4
  rw [if_neg (by simp [h])]
theorem wfA_fromL4 (a : Ad) : wfA (fromL (addr4 a)) := wfA_ofB _ (by rw [bitsL_length, addr4_length]; omega)
theorem p_back4 : T_back4 := by
  rintro ⟨h, body⟩ ⟨hw, hb⟩
  dsimp only at hw hb ⊢
  have hb : okB body := hb
  refine ⟨(), trivial, fun _ _ => ifB_d (fun _ => ⟨(), trivial, rfl, trivial⟩) fun hl => ⟨(h, body), rfl, rfl, rfl, rfl, rfl, rfl, rfl, rfl, rfl, rfl, rfl, rfl, ⟨hw, hb⟩, fun _ _ => ⟨build4 h body, rfl, rfl, okB_build4 h hb, fun _ _ => ?_⟩⟩⟩
  obtain ⟨⟨q1, q2, q3⟩, q4, q5⟩ := build4_law h hb (by omega)
  dsimp only
  rw [i64_and255, i64_and255]
  generalize hB : build4 h body = b at *
  have hst : strangeZ (b.getD 12 0) (b.getD 16 0) = true → decide ((parse4 b).2 = 6) = true := fun k => by rw [q5, if_pos k]; rfl
  refine ⟨by omega, ifB_ne (by omega) ⟨by omega, ifB_ne (by rw [List.take_length, q2]) ⟨by omega, b.take 20, by rw [List.length_take]; omega, by rw [List.drop_zero], ⟨okB_take (hB ▸ okB_build4 h hb) _, by show _ ≤ 1000000; rw [List.length_take]; omega⟩, fun _ _ => ifB_ne q3 ⟨by omega, ifB_d (fun k => ⟨(), trivial, hst (by unfold strangeZ; rw [decide_eq_true k]; rfl), trivial⟩) fun k1 => ⟨by omega, ifB_d (fun k => ⟨(), trivial, hst (by unfold strangeZ; rw [decide_eq_true k]; simp), trivial⟩) fun k2 => ⟨by omega, ifB_d (fun k => ⟨(), trivial, hst (by unfold strangeZ; rw [decide_eq_true k]; simp), trivial⟩) fun k3 => ?_⟩⟩⟩⟩⟩⟩
  have ns : ¬ strangeZ (b.getD 12 0) (b.getD 16 0) = true := by unfold strangeZ; rw [decide_eq_false k1, decide_eq_false k2, decide_eq_false k3]; decide
  rw [q5, if_neg ns, q4]
  dsimp only
  refine ifB_eq rfl (ifB_eq rfl (ifB_eq (by omega) (ifB_eq rfl (ifB_eq rfl ?_))))
  refine ifB_b (fun v1 => ifB_b (fun v2 => ⟨(), trivial, rfl, trivial⟩) fun v2 => ?_) fun v1 => ?_
  · exact ⟨fromL (addr4 (hDst h)), rfl, rfl, rfl, wfA_fromL4 _, fun _ _ => ⟨hDst h, rfl, rfl, rfl, hw.2, fun _ _ => ⟨(), trivial, by rw [bytes_addr4 v2]; simp, trivial⟩⟩⟩
  · refine ⟨fromL (addr4 (hSrc h)), rfl, rfl, rfl, wfA_fromL4 _, fun _ _ => ⟨hSrc h, rfl, rfl, rfl, hw.1, fun _ _ => ifB_eq (bytes_addr4 v1) (ifB_b (fun v2 => ⟨(), trivial, rfl, trivial⟩) fun v2 => ?_)⟩⟩
    exact ⟨fromL (addr4 (hDst h)), rfl, rfl, rfl, wfA_fromL4 _, fun _ _ => ⟨hDst h, rfl, rfl, rfl, hw.2, fun _ _ => ⟨(), trivial, by rw [bytes_addr4 v2]; simp, trivial⟩⟩⟩
theorem p_hops4 : T_hops4 := by
  intro b hb
  have hb : okB b := hb
  refine ⟨(), trivial, fun _ _ => ifB_d (fun _ => ⟨(), trivial, rfl, trivial⟩) fun hl => ⟨b, rfl, rfl, hb, fun _ _ => ⟨b, rfl, rfl, ⟨hb, by show _ ≤ 1000000; omega⟩, fun _ _ => ifB_d (fun h => ?_) fun h => ?_⟩⟩⟩
  · have t8 : (readH b).2.2.1 = b.getD 8 0 := rfl
    have b8 := okB_getD hb 8
    obtain ⟨e1, e2, e3, e4, e5, e6, e7, e8, e9⟩ := parse4_ok h
    by_cases h2 : 2 ≤ (readH b).2.2.1
    · obtain ⟨c1, c2, c3, c4, c5⟩ := hop4_law hb h h2
      rw [c1, e1]
      dsimp only
      have hg : ∀ i : Nat, i ≠ 8 → i ≠ 10 → i ≠ 11 → i < (readH b).2.1.toNat → (hopC b (readH b).2.1.toNat).getD i 0 = b.getD i 0 := fun i a1 a2 a3 a4 => hopC_get a1 a2 a3 a4
      generalize hopC b (readH b).2.1.toNat = c at *
      have hmin : min (c.length : Int) (readH b).1 = (readH b).1 := by omega
      rw [hmin]
      refine ifB_ne (by simp [h2]) (ifB_fb rfl ⟨c, rfl, rfl, c2, fun _ _ => ⟨by omega, by omega, (c.take (readH b).1.toNat, 10), by rw [List.length_take]; omega, rfl, rfl, ⟨okB_take c2 _, by show _ ≤ 1000000; rw [List.length_take]; omega, by dsimp only; omega, by dsimp only; omega⟩, fun _ _ => ?_⟩⟩)
      rw [c4]
      dsimp only
      refine ifB_fb (by simp) (ifB_fb (by simp) (ifB_ne (by omega) ⟨by omega, ifB_ne (by rw [c5]; rfl) ?_⟩))
      refine ⟨fun i => 0 ≤ i ∧ i ≤ c.length, fun i => (c.length - i).toNat, ⟨0, ⟨by omega, by omega⟩, rfl, trivial⟩, fun i hi => ifB_d (fun hi2 => ?_) fun hi2 => ?_⟩
      · have nx : (-9223372036854775808 ≤ i + 1 ∧ i + 1 ≤ 9223372036854775807) ∧ ∃ y : Int, (0 ≤ y ∧ y ≤ c.length) ∧ ((c.length : Int) - y).toNat < ((c.length : Int) - i).toNat ∧ i + 1 = y ∧ True := ⟨by omega, i + 1, ⟨by omega, by omega⟩, by omega, rfl, trivial⟩
        refine ifB_nd (fun n8 => ifB_nd (fun n10 => ifB_nd (fun n11 => ⟨by omega, by omega, ifB_ne (hg i.toNat (by omega) (by omega) (by omega) (by omega)) nx⟩) fun _ => nx) fun _ => nx) fun _ => nx
      · refine ⟨fun x => okB x.1 ∧ x.1.length ≤ 1000000 ∧ 0 ≤ x.2.2 ∧ ((x.2.1 = true ∧ (parse4 x.1).2 = 0 ∧ 1 ≤ (parse4 x.1).1.2.2.1 ∧ x.2.2 + (parse4 x.1).1.2.2.1 = (readH b).2.2.1 - 1) ∨ (x.2.1 = false ∧ x.2.2 = (readH b).2.2.1 - 1)), fun x => (300 - x.2.2).toNat + x.2.1.toNat, ⟨(c, true, 0), ⟨c2, by dsimp only; omega, by dsimp only; omega, .inl ⟨rfl, by rw [c4], by rw [c4]; dsimp only; omega, by rw [c4]; dsimp only; omega⟩⟩, rfl, rfl, rfl, rfl, trivial⟩, ?_⟩
        rintro ⟨l, ok, n⟩ ⟨i1, i2, i3, i4⟩
        dsimp only at i1 i2 i3 i4 ⊢
        have fin : n = (readH b).2.2.1 - 1 → ∃ y : Unit, True ∧ decide (n = (readH b).2.2.1 - 1) = true ∧ True := fun h => ⟨(), trivial, decide_eq_true h, trivial⟩
        refine ifB_b (fun hok => ifB_d (fun hn => ?_) fun hn => fin ?_) fun hok => fin ?_
        · subst hok
          obtain ⟨-, j1, j2, j3⟩ := i4.resolve_right (by simp)
          refine ⟨l, rfl, rfl, ⟨i1, i2⟩, fun _ _ => ⟨by omega, ((hop4 l).1, (hop4 l).2, n + 1), ?_, ?_, rfl, rfl, rfl, rfl, trivial⟩⟩
          · have k1 := (parse4_ok j1).1
            by_cases k : 2 ≤ (readH l).2.2.1
            · obtain ⟨d1, d2, d3, d4, d5⟩ := hop4_law i1 j1 k
              rw [d1]
              dsimp only
              have k7 := (parse4_ok j1).2.2.2.2.2.2.1
              refine ⟨d2, by omega, by omega, .inl ⟨rfl, by rw [d4], by rw [d4]; dsimp only; omega, by rw [d4]; dsimp only; rw [k1] at j3; omega⟩⟩
            · rw [hop4_no (.inr (by rw [k1]; omega))]
              dsimp only
              rw [k1] at j2 j3
              exact ⟨by intro x hx; simp at hx, by simp, by omega, .inr ⟨rfl, by omega⟩⟩
          · have : (hop4 l).2.toNat ≤ 1 := Bool.toNat_le _
            dsimp only
            have h1 : true.toNat = 1 := rfl
            omega
        · subst hok
          obtain ⟨-, j1, j2, j3⟩ := i4.resolve_right (by simp)
          omega
        · subst hok
          exact (i4.resolve_left (by simp)).2
    · rw [hop4_no (.inr (by rw [e1]; omega)), e1]
      dsimp only
      refine ifB_ne (by simp; omega) (ifB_tb rfl ⟨(), trivial, rfl, trivial⟩)
  · rw [hop4_no (.inl h)]
    dsimp only
    exact ifB_ne rfl (ifB_tb rfl ⟨(), trivial, rfl, trivial⟩)
theorem wf_b20 {b : List Int} (h : wfT u8K b) : okB b := fun x hx => by
  have h1 : (L.i .u8 x).wf := h x hx _ (by simp [leafs, Kd.leaf])
  simpa [L.wf, Sx.lo, Sx.hi] using h1
theorem wf_h20 {r : Hd} (h : ∀ l ∈ leafs hdK r, l.wf) : wfH r := by
  obtain ⟨a, b, c, d, s1, s2, s3, d1, d2, d3⟩ := r
  have h1 : (L.i .u64 s1).wf := h _ (by simp [leafs, Kd.leaf])
  have h2 : (L.i .u64 s2).wf := h _ (by simp [leafs, Kd.leaf])
  have h3 : (L.i .u64 d1).wf := h _ (by simp [leafs, Kd.leaf])
  have h4 : (L.i .u64 d2).wf := h _ (by simp [leafs, Kd.leaf])
  simp only [L.wf, Sx.lo, Sx.hi] at h1 h2 h3 h4
  exact ⟨⟨⟨h1.1, by show s1 < _; omega⟩, h2.1, by show s2 < _; omega⟩, ⟨h3.1, by show d1 < _; omega⟩, h4.1, by show d2 < _; omega⟩
theorem g_aw20 : Good Try.prog 64 Aw20 := good_of_owes hM hP GI4 Try.func64 rfl (o_aw20 ▸ p_aw20)
theorem GL20 : Goods Try.prog L20 := goods_cons g_aw20 GI4
theorem g_back4 : Good Try.prog 16 Back4L := good_of_owes hM hP GL20 Try.func16 rfl (o_back4 ▸ p_back4)
theorem g_wrong4 : Good Try.prog 17 Wrong4L := good_of_owes hM hP GL20 Try.func17 rfl (o_wrong4 ▸ p_wrong4)
theorem g_long4 : Good Try.prog 18 Long4L := good_of_owes hM hP GL20 Try.func18 rfl (o_long4 ▸ p_long4)
theorem g_hops4 : Good Try.prog 21 Hops4L := good_of_owes hM hP GL20 Try.func21 rfl (o_hops4 ▸ p_hops4)
theorem law_back4 (h : Hd) (b : List Int) (w : ∀ l ∈ leafs hdK h, l.wf) (k : wfT u8K b) : Back4L.pre (h, b) := ⟨wf_h20 w, wf_b20 k⟩
theorem law_wrong4 (b : List Int) (n : Int) (k : wfT u8K b) (_ : lo .i64 ≤ n ∧ n ≤ hi .i64) : Wrong4L.pre (b, n) := wf_b20 k
theorem law_long4 (b m : List Int) (k : wfT u8K b) (k2 : wfT u8K m) : Long4L.pre (b, m) := ⟨wf_b20 k, wf_b20 k2⟩
theorem law_hops4 (b : List Int) (k : wfT u8K b) : Hops4L.pre b := wf_b20 k
-- LAW Ipv4Back kedgelaw20.Ipv4Back Sp.g_back4 Sp.law_back4
-- LAW Ipv4Wrong kedgelaw20.Ipv4Wrong Sp.g_wrong4 Sp.law_wrong4
-- LAW Ipv4Long kedgelaw20.Ipv4Long Sp.g_long4 Sp.law_long4
-- LAW Ipv4Hops kedgelaw20.Ipv4Hops Sp.g_hops4 Sp.law_hops4
end Sp
