import Derived.Test.YtcilcmbailoeaaaKWx7
import Derived.Test.YtcilcmbailoeaaaKWx6
import Derived.OpenShut
namespace Go.Proofs.Ytcilcmbailoeaaa.Pure
open Go.RowKit Go.Proofs.Ytcilcmbailoeaaa.KW Go.Proofs.YtcilcmbailoeaaaW.PrintWords Go.Proofs.YtcilcmbailoeaaaW.PrintLast
theorem ev_pos {α : Type} {c : Prop} [Decidable c] {f g : Nat → Option α} {r : α} (h : c) (k : Ev f r) : Ev (fun n => if c then f n else g n) r := by
  simp only [if_pos h]; exact k
theorem ev_neg {α : Type} {c : Prop} [Decidable c] {f g : Nat → Option α} {r : α} (h : ¬ c) (k : Ev g r) : Ev (fun n => if c then f n else g n) r := by
  simp only [if_neg h]; exact k
theorem ev_some {α β : Type} {f : Nat → α → Option β} {o : Option α} {a : α} {r : β} (h : o = some a) (k : Ev (fun n => f n a) r) : Ev (fun n => o.bind (f n)) r := by
  simp only [h, Option.bind_some]; exact k
theorem okby_of {l : List Int} (h : ∀ x ∈ l, (Lit.int .u8 x).wf = true) : okby l := fun x hx => by
  have := bounds_u8 (h x hx)
  omega
theorem okby_app {a b : List Int} (ha : okby a) (hb : okby b) : okby (a ++ b) := fun x hx => by
  rcases List.mem_append.mp hx with h | h
  · exact ha x h
  · exact hb x h
theorem okby_drop {a : List Int} (ha : okby a) (n : Nat) : okby (a.drop n) := fun x hx => ha x (List.mem_of_mem_drop hx)
theorem okby_take {a : List Int} (ha : okby a) (n : Nat) : okby (a.take n) := fun x hx => ha x (List.mem_of_mem_take hx)
theorem okby_zeros (n : Nat) : okby (List.replicate n 0) := fun x hx => by
  rw [List.eq_of_mem_replicate hx]; omega
theorem rd_okby {l : List Int} (h : okby l) (j : Int) : 0 ≤ rd l j ∧ rd l j ≤ 255 := by
  unfold rd
  rw [List.getD_eq_getElem?_getD]
  cases hq : l[j.toNat]? with
  | none => simp
  | some x => exact h x (List.mem_of_getElem? hq)
theorem w64_in (x : Int) (h : -9223372036854775808 ≤ x ∧ x ≤ 9223372036854775807) : wrap64 x = x := by unfold wrap64; omega
theorem width_is (v : Bool) : addr_Width.f v = some (if v = true then 128 else 32) := by unfold addr_Width.f; cases v <;> rfl
theorem jw_ok {l : List Int} (h : okby l) : ok64 (jw l) := by
  have h0 := rd_okby h 0
  have h1 := rd_okby h 1
  have h2 := rd_okby h 2
  have h3 := rd_okby h 3
  have h4 := rd_okby h 4
  have h5 := rd_okby h 5
  have h6 := rd_okby h 6
  have h7 := rd_okby h 7
  unfold ok64 jw
  omega
theorem from_ok {l : List Int} (h : okby l) : ∃ a, addr_From.f l = some a ∧ ok64 a.1 ∧ ok64 a.2.1 := by
  unfold addr_From.f
  rw [if_pos h]
  by_cases h4 : l.length = 4
  · rw [if_pos h4]
    exact ⟨_, rfl, jw_ok h, by show ok64 0; decide⟩
  rw [if_neg h4]
  by_cases h16 : l.length = 16
  · rw [if_pos h16]
    exact ⟨_, rfl, jw_ok (okby_take h 8), jw_ok (okby_drop h 8)⟩
  rw [if_neg h16]
  exact ⟨_, rfl, by show ok64 0; decide, by show ok64 0; decide⟩
theorem sane_ok (hi lo : Int) (v : Bool) (n : Int) (h1 : ok64 hi) (h2 : ok64 lo) : ∃ s, prefix_Sane.f hi lo v n = some s := by
  unfold prefix_Sane.f prefix_Of.f addr_Mask.f
  rw [width_is, Option.bind_some, if_pos ⟨h1, h2⟩]
  exact ⟨_, rfl⟩
theorem splice_okby (n : Nat) {l : List Int} (h : okby l) : okby (splice (List.replicate n 0) 0 l) := by
  unfold splice
  refine okby_app (okby_take (okby_zeros n) _) (okby_app h (okby_drop (okby_zeros n) _))
theorem rest_is (v : Bool) (l : List Int) (n : Int) (hk : okby l) (h2 : 2 ≤ l.length) (hn : 0 ≤ n ∧ n ≤ 255) :
    ∃ r, get_rest v l n = some r ∧ (r.2.2.2.2.2 = 0 → (2 ≤ r.2.2.2.2.1 ∧ r.2.2.2.2.1 ≤ l.length) ∧ ∀ q, get_rest v (l ++ q) n = some r) := by
  unfold get_rest
  by_cases c1 : (if v = true then (128 : Int) else 32) < n
  · simp only [if_pos c1]
    exact ⟨_, rfl, fun h => absurd h (by decide)⟩
  simp only [if_neg c1]
  by_cases c2 : (l.length : Int) < 2 + (n + 7) / 8
  · rw [if_pos c2]
    exact ⟨_, rfl, fun h => absurd h (by decide)⟩
  rw [if_neg c2]
  obtain ⟨a, ha, ha1, ha2⟩ := from_ok (splice_okby (if v = true then 16 else 4) (okby_take (okby_drop hk 2) ((n + 7) / 8).toNat))
  obtain ⟨s, hs⟩ := sane_ok a.1 a.2.1 a.2.2.1 n ha1 ha2
  rw [ha, Option.bind_some, hs, Option.bind_some]
  cases s with
  | false => exact ⟨_, rfl, fun h => absurd h (by simp)⟩
  | true =>
    refine ⟨_, rfl, fun _ => ⟨by simp only []; omega, fun q => ?_⟩⟩
    rw [if_neg (by rw [List.length_append]; omega)]
    rw [List.drop_append_of_le_length h2, List.take_append_of_le_length (by rw [List.length_drop]; omega)]
    rw [ha, Option.bind_some, hs, Option.bind_some]
    rfl
theorem rd_app (l q : List Int) (j : Nat) (h : j < l.length) : rd (l ++ q) (j : Int) = rd l (j : Int) := by
  unfold rd
  rw [Int.toNat_natCast, List.getD_eq_getElem?_getD, List.getD_eq_getElem?_getD, List.getElem?_append_left h]
theorem get_is (l : List Int) (hk : okby l) :
    ∃ r, wire_Get.f l = some r ∧ (r.2.2.2.2.2 = 0 → (2 ≤ r.2.2.2.2.1 ∧ r.2.2.2.2.1 ≤ l.length) ∧ ∀ q, okby q → wire_Get.f (l ++ q) = some r) := by
  by_cases c1 : l.length < 2
  · unfold wire_Get.f
    rw [if_pos hk, if_pos c1]
    exact ⟨_, rfl, fun h => absurd h (by decide)⟩
  have e0 : ∀ q, rd (l ++ q) 0 = rd l 0 := fun q => rd_app l q 0 (by omega)
  have e1 : ∀ q, rd (l ++ q) 1 = rd l 1 := fun q => rd_app l q 1 (by omega)
  by_cases c6 : rd l 0 = 6
  · obtain ⟨r, hr, hq⟩ := rest_is true l (rd l 1) hk (by omega) (rd_okby hk 1)
    refine ⟨r, ?_, fun h => ⟨(hq h).1, fun q hkq => ?_⟩⟩
    · unfold wire_Get.f
      rw [if_pos hk, if_neg c1, if_pos c6, hr]
    · unfold wire_Get.f
      rw [if_pos (okby_app hk hkq), if_neg (by rw [List.length_append]; omega), e0, e1, if_pos c6, (hq h).2 q]
  by_cases c4 : rd l 0 = 4
  · obtain ⟨r, hr, hq⟩ := rest_is false l (rd l 1) hk (by omega) (rd_okby hk 1)
    refine ⟨r, ?_, fun h => ⟨(hq h).1, fun q hkq => ?_⟩⟩
    · unfold wire_Get.f
      rw [if_pos hk, if_neg c1, if_neg c6, if_pos c4, hr]
    · unfold wire_Get.f
      rw [if_pos (okby_app hk hkq), if_neg (by rw [List.length_append]; omega), e0, e1, if_neg c6, if_pos c4, (hq h).2 q]
  unfold wire_Get.f
  rw [if_pos hk, if_neg c1, if_neg c6, if_neg c4]
  exact ⟨_, rfl, fun h => absurd h (by decide)⟩
theorem route_is (l : List Int) (hk : okby l) (hl : l.length ≤ 140737488355328) :
    ∃ r, wire_GetRoute.f l = some r ∧ (r.2.2.2.2.2.2 = 0 → (4 ≤ r.2.2.2.2.2.1 ∧ r.2.2.2.2.2.1 ≤ l.length) ∧ ∀ q, okby q → l.length + q.length ≤ 140737488355328 → wire_GetRoute.f (l ++ q) = some r) := by
  obtain ⟨g, hg, hq⟩ := get_is l hk
  unfold wire_GetRoute.f
  rw [hg, Option.bind_some]
  by_cases c0 : g.2.2.2.2.2 = 0
  · obtain ⟨⟨n2, nl⟩, ha⟩ := hq c0
    obtain ⟨g1, g2, g3, g4, n, g6⟩ := g
    simp only [] at c0 n2 nl ha ⊢
    subst c0
    rw [if_pos rfl, if_pos (by omega), if_pos nl]
    by_cases c2 : ((l.drop n.toNat).length : Int) < 2
    · rw [if_pos c2]
      exact ⟨_, rfl, fun h => absurd h (by decide)⟩
    rw [if_neg c2, if_pos (by omega), if_pos (by omega)]
    rw [List.length_drop] at c2
    refine ⟨_, rfl, fun _ => ⟨?_, fun q hkq hlq => ?_⟩⟩
    · show 4 ≤ wrap64 (n + 2) ∧ wrap64 (n + 2) ≤ _
      rw [w64_in _ (by omega)]
      omega
    · rw [ha q hkq, Option.bind_some]
      simp only []
      rw [if_pos trivial, if_pos (by omega), if_pos (by rw [List.length_append]; omega)]
      rw [List.drop_append_of_le_length (by omega)]
      rw [if_neg (by rw [List.length_append, List.length_drop]; omega), if_pos (by rw [List.length_append, List.length_drop]; omega), if_pos (by rw [List.length_append, List.length_drop]; omega)]
      have e0 : rd (l.drop n.toNat ++ q) 0 = rd (l.drop n.toNat) 0 := rd_app _ q 0 (by rw [List.length_drop]; omega)
      have e1 : rd (l.drop n.toNat ++ q) 1 = rd (l.drop n.toNat) 1 := rd_app _ q 1 (by rw [List.length_drop]; omega)
      rw [e0, e1]
  · rw [if_neg c0]
    exact ⟨_, rfl, fun h => absurd h c0⟩
def mkR (r : Int × Int × Bool × Int × Int × Int × Int) : S41 := ⟨⟨⟨r.1, r.2.1, r.2.2.1⟩, r.2.2.2.1⟩, r.2.2.2.2.1⟩
inductive Reads : List Int → List S41 → Int → Prop
  | nil : Reads [] [] 0
  | bad (l : List Int) (r : Int × Int × Bool × Int × Int × Int × Int) : 0 < l.length → wire_GetRoute.f l = some r → r.2.2.2.2.2.2 ≠ 0 → Reads l [] r.2.2.2.2.2.2
  | good (l : List Int) (r : Int × Int × Bool × Int × Int × Int × Int) (xs : List S41) (e : Int) : 0 < l.length → wire_GetRoute.f l = some r → r.2.2.2.2.2.2 = 0 → 4 ≤ r.2.2.2.2.2.1 → r.2.2.2.2.2.1 ≤ l.length → Reads (l.drop r.2.2.2.2.2.1.toNat) xs e → Reads l (if e = 0 then mkR r :: xs else []) e
theorem reads_is : ∀ (m : Nat) (l : List Int), l.length ≤ m → okby l → l.length ≤ 140737488355328 → ∃ xs e, Reads l xs e
  | m, [], _, _, _ => ⟨_, _, .nil⟩
  | 0, x :: l, h, _, _ => absurd h (by simp)
  | m + 1, x :: l, h, hk, hl => by
    obtain ⟨r, hr, hq⟩ := route_is (x :: l) hk hl
    by_cases c : r.2.2.2.2.2.2 = 0
    · obtain ⟨⟨h4, h5⟩, _⟩ := hq c
      obtain ⟨xs, e, hd⟩ := reads_is m ((x :: l).drop r.2.2.2.2.2.1.toNat) (by rw [List.length_drop]; omega) (okby_drop hk _) (by rw [List.length_drop]; omega)
      exact ⟨_, _, .good _ r xs e (by simp) hr c h4 h5 hd⟩
    · exact ⟨_, _, .bad _ r (by simp) hr c⟩
theorem reads_len {l : List Int} {xs : List S41} {e : Int} (h : Reads l xs e) : xs.length ≤ l.length := by
  induction h with
  | nil => simp
  | bad => simp
  | good l r xs e h0 hr c h4 h5 hd ih =>
    split
    · rw [List.length_drop] at ih
      rw [List.length_cons]
      omega
    · simp
theorem reads_no {l : List Int} {xs : List S41} {e : Int} (h : Reads l xs e) : e ≠ 0 → xs = [] := by
  induction h with
  | nil => intro h; exact absurd rfl h
  | bad => intro _; rfl
  | good l r xs e h0 hr c h4 h5 hd ih => intro h; rw [if_neg h]
theorem ev_reads {l : List Int} {xs : List S41} {e : Int} (h : Reads l xs e) : ∀ out : List S41, out.length + l.length < 3518437208883 → Ev (fun k => api_Route.l0 k l out) (if e = 0 then out ++ xs else [], e) := by
  induction h with
  | nil =>
    intro out ho
    refine Ev.step (f := fun k => api_Route.l0 (k + 1) [] out) (fun k => rfl) ?_
    simp only [api_Route.l0]
    refine ev_neg (by simp) ?_
    simp only [List.append_nil]
    exact Ev.now _
  | bad l r h0 hr c =>
    intro out ho
    refine Ev.step (f := fun k => api_Route.l0 (k + 1) l out) (fun k => rfl) ?_
    simp only [api_Route.l0]
    refine ev_pos (by omega) ?_
    refine ev_some hr ?_
    refine ev_neg c ?_
    rw [if_neg c]
    exact Ev.now _
  | good l r xs e h0 hr c h4 h5 hd ih =>
    intro out ho
    refine Ev.step (f := fun k => api_Route.l0 (k + 1) l out) (fun k => rfl) ?_
    simp only [api_Route.l0]
    refine ev_pos (by omega) ?_
    refine ev_some hr ?_
    refine ev_pos c ?_
    refine ev_pos (by omega) ?_
    refine ev_pos (by omega) ?_
    refine ev_pos h5 ?_
    have := ih (out ++ [mkR r]) (by rw [List.length_append, List.length_drop]; simp; omega)
    have e2 : (if e = 0 then out ++ [mkR r] ++ xs else []) = (if e = 0 then out ++ (if e = 0 then mkR r :: xs else []) else []) := by
      split
      · simp
      · rfl
    rw [e2] at this
    exact this
theorem ev_getAll {l : List Int} {xs : List S41} {e : Int} (h : Reads l xs e) (hl : l.length < 3518437208883) : Ev (fun k => wire_GetAll.f k l) (xs, e) := by
  unfold wire_GetAll.f api_Route.f
  have := ev_reads h [] (by simpa using hl)
  refine Ev.bind this ?_
  have e2 : (if e = 0 then [] ++ xs else []) = xs := by
    split
    · simp
    · rename_i h2; rw [reads_no h h2]
  rw [e2]
  exact Ev.now _
theorem reads_app {a : List Int} {xs : List S41} {e : Int} (h : Reads a xs e) : e = 0 → ∀ (b : List Int) (ys : List S41) (f : Int), okby a → okby b → a.length + b.length ≤ 140737488355328 → Reads b ys f → Reads (a ++ b) (if f = 0 then xs ++ ys else []) f := by
  induction h with
  | nil =>
    intro _ b ys f _ _ _ hb
    have e2 : (if f = 0 then [] ++ ys else []) = ys := by
      split
      · simp
      · rename_i h2; rw [reads_no hb h2]
    rw [e2, List.nil_append]
    exact hb
  | bad l r h0 hr c => intro h; exact absurd h c
  | good l r xs e h0 hr c h4 h5 hd ih =>
    intro he b ys f ha hb hl hR
    have h2 := ih he b ys f (okby_drop ha _) hb (by rw [List.length_drop]; omega) hR
    rw [← List.drop_append_of_le_length (by omega)] at h2
    obtain ⟨r', hr', hq⟩ := route_is l ha (by omega)
    obtain rfl : r' = r := by rw [hr] at hr'; exact (Option.some.inj hr').symm
    have h3 := Reads.good (l ++ b) r' _ f (by rw [List.length_append]; omega) ((hq c).2 b hb hl) c h4 (by rw [List.length_append]; omega) h2
    have e2 : (if f = 0 then mkR r' :: (if f = 0 then xs ++ ys else []) else []) = (if f = 0 then (if e = 0 then mkR r' :: xs else []) ++ ys else []) := by
      subst he
      split
      · simp
      · rfl
    rw [e2] at h3
    exact h3
theorem ev_same (a : List S41) (hl : a.length ≤ 140737488355328) : ∀ (m : Nat) (i : Nat), a.length - i ≤ m → i ≤ a.length → Ev (fun k => kedgeref04_Same.l0 k a a (i : Int)) true
  | 0, i, h, hi => by
    refine Ev.step (f := fun k => kedgeref04_Same.l0 (k + 1) a a (i : Int)) (fun k => rfl) ?_
    simp only [kedgeref04_Same.l0]
    refine ev_neg (by omega) ?_
    exact Ev.now _
  | m + 1, i, h, hi => by
    refine Ev.step (f := fun k => kedgeref04_Same.l0 (k + 1) a a (i : Int)) (fun k => rfl) ?_
    simp only [kedgeref04_Same.l0]
    by_cases c : (i : Int) < a.length
    · refine ev_pos c ?_
      refine ev_pos (by omega) ?_
      refine ev_pos c ?_
      refine ev_neg (by simp) ?_
      rw [w64_in _ (by omega)]
      exact ev_same a hl m (i + 1) (by omega) (by omega)
    · refine ev_neg c ?_
      exact Ev.now _
theorem ev_sames (a : List S41) (hl : a.length ≤ 140737488355328) : Ev (fun k => kedgeref04_Same.f k a a) true := by
  unfold kedgeref04_Same.f
  refine ev_pos rfl ?_
  exact ev_same a hl a.length 0 (by omega) (Nat.zero_le _)
theorem awake_is : kedgelaw04_awake.f = some true := by kernel_rfl
end Go.Proofs.Ytcilcmbailoeaaa.Pure
