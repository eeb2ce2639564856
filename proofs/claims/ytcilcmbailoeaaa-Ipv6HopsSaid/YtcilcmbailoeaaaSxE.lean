/- A symbolic walk: comparisons of structs, and all operations of two values, are as the model has them. -/
import Derived.Test.YtcilcmbailoeaaaSxD
set_option linter.all false
namespace Sx
open Go
section
variable {P : Program} {ν : Nu} {N : Nat} {w : World}
theorem toBA_inj : ∀ {xs ys : List Int}, okS xs → okS ys → toBA xs = toBA ys → xs = ys := by
  intro xs ys hx hy h
  have h : (xs.map fun x => UInt8.ofNat x.toNat) = ys.map fun x => UInt8.ofNat x.toNat := by simpa [toBA] using h
  induction xs generalizing ys with
  | nil => cases ys with
    | nil => rfl
    | cons y ys => simp at h
  | cons x xs ih => cases ys with
    | nil => simp at h
    | cons y ys =>
      simp only [List.map_cons, List.cons.injEq] at h
      have a := hx x (by simp)
      have b := hy y (by simp)
      have e : x.toNat = y.toNat := by
        have := congrArg UInt8.toNat h.1
        simp only [UInt8.toNat_ofNat'] at this
        omega
      rw [ih (fun z hz => hx z (by simp [hz])) (fun z hz => hy z (by simp [hz])) (by simp [toBA, h.2]) h.2, show x = y by omega]
theorem strEq {xs ys : List Int} (hx : okS xs) (hy : okS ys) : ((toBA xs).toList == (toBA ys).toList) = decide (xs = ys) := by
  rw [ByteArray.toList_eq, ByteArray.toList_eq]
  by_cases h : xs = ys
  · subst h; simp
  · have : (toBA xs).data.toList ≠ (toBA ys).data.toList := fun e => h (toBA_inj hx hy (by
      have e := Array.toList_inj.1 e
      cases hx : toBA xs; cases hy : toBA ys; simp_all))
    rw [decide_eq_false h]
    exact beq_eq_false_iff_ne.2 this
/-- '==' of two scalars of one kind. -/
def sEq : Value → Value → Option Bool
  | .int k a, .int k' b => if k = k' then some (decide (a = b)) else none
  | .bool a, .bool b => some (decide (a = b))
  | .string a, .string b => some (a == b)
  | _, _ => none
def sEqs : List Value → List Value → Option Bool
  | [], [] => some true
  | x :: xs, y :: ys => match sEq x y, sEqs xs ys with
    | some b, some c => some (b && c)
    | _, _ => none
  | _, _ => none
theorem leq_sEq {x y : L} {b : Bool} (hx : x.wf) (hy : y.wf) (h : leq x y = some b) : sEq x.val y.val = some b := by
  cases x <;> cases y <;> simp only [leq] at h <;> try (cases h; done)
  · cases h; rfl
  · rename_i k a k' c
    unfold sameK at h
    split at h
    · rename_i hk
      have := of_decide_eq_true hk
      subst this
      cases h
      simp [sEq, L.val]
    · cases h
  · rename_i xs ys
    cases h
    have := strEq hx hy
    rw [← beq_toListBytes] at this
    simp [sEq, L.val, this]
theorem eqs_sEqs : ∀ {as bs : List A} {xs ys : List Value} {b : Bool}, relAs ν N as xs → relAs ν N bs ys → eqs as bs = some b → sEqs xs ys = some b
  | [], [], [], [], b, _, _, h => by simpa [eqs, sEqs] using h
  | [.l x], [.l y], [v], [u], b, hx, hy, h => by
    obtain ⟨⟨⟨w1, rfl⟩, _⟩, _⟩ := hx
    obtain ⟨⟨⟨w2, rfl⟩, _⟩, _⟩ := hy
    have := leq_sEq w1 w2 h
    simp [sEqs, this]
  | .l x :: a :: as, .l y :: bs, v :: vs, u :: us, b, hx, hy, h => by
    obtain ⟨⟨⟨w1, rfl⟩, _⟩, hx⟩ := hx
    obtain ⟨⟨⟨w2, rfl⟩, _⟩, hy⟩ := hy
    cases bs with
    | nil => simp [eqs] at h
    | cons c bs =>
      simp only [eqs] at h
      split at h
      · rename_i b1 b2 h1 h2
        cases h
        simp [sEqs, leq_sEq w1 w2 h1, eqs_sEqs hx hy h2]
      · cases h
  | [.l x], .l y :: b' :: bs, v :: vs, u :: us, b, hx, hy, h => by
    simp only [eqs] at h
    split at h
    · rename_i h2
      simp [eqs] at h2
    · cases h
  | [], _ :: _, _, _, _, _, _, h => by simp [eqs] at h
  | _ :: _, [], _, _, _, _, _, h => by simp [eqs] at h
  | [], [], _ :: _, _, _, hx, _, _ => hx.elim
  | [], [], [], _ :: _, _, _, hy, _ => hy.elim
  | _ :: _, _ :: _, [], _, _, hx, _, _ => hx.elim
  | _ :: _, _ :: _, _ :: _, [], _, _, hy, _ => hy.elim
  | .junk :: _, _ :: _, _ :: _, _ :: _, _, _, _, h => by simp [eqs] at h
  | .p .. :: _, _ :: _, _ :: _, _ :: _, _, _, _, h => by simp [eqs] at h
  | .e .. :: _, _ :: _, _ :: _, _ :: _, _, _, _, h => by simp [eqs] at h
  | .np :: _, _ :: _, _ :: _, _ :: _, _, _, _, h => by simp [eqs] at h
  | .f .. :: _, _ :: _, _ :: _, _ :: _, _, _, _, h => by simp [eqs] at h
  | .sb .. :: _, _ :: _, _ :: _, _ :: _, _, _, _, h => by simp [eqs] at h
  | .ns :: _, _ :: _, _ :: _, _ :: _, _, _, _, h => by simp [eqs] at h
  | .z :: _, _ :: _, _ :: _, _ :: _, _, _, _, h => by simp [eqs] at h
  | .fn .. :: _, _ :: _, _ :: _, _ :: _, _, _, _, h => by simp [eqs] at h
  | .o .. :: _, _ :: _, _ :: _, _ :: _, _, _, _, h => by simp [eqs] at h
  | .l _ :: _, .junk :: _, _ :: _, _ :: _, _, _, _, h => by simp [eqs] at h
  | .l _ :: _, .p .. :: _, _ :: _, _ :: _, _, _, _, h => by simp [eqs] at h
  | .l _ :: _, .e .. :: _, _ :: _, _ :: _, _, _, _, h => by simp [eqs] at h
  | .l _ :: _, .np :: _, _ :: _, _ :: _, _, _, _, h => by simp [eqs] at h
  | .l _ :: _, .f .. :: _, _ :: _, _ :: _, _, _, _, h => by simp [eqs] at h
  | .l _ :: _, .sb .. :: _, _ :: _, _ :: _, _, _, _, h => by simp [eqs] at h
  | .l _ :: _, .ns :: _, _ :: _, _ :: _, _, _, _, h => by simp [eqs] at h
  | .l _ :: _, .z :: _, _ :: _, _ :: _, _, _, _, h => by simp [eqs] at h
  | .l _ :: _, .fn .. :: _, _ :: _, _ :: _, _, _, _, h => by simp [eqs] at h
  | .l _ :: _, .o .. :: _, _ :: _, _ :: _, _, _, _, h => by simp [eqs] at h
theorem sEqs_split : ∀ {xs ys : List Value} {b : Bool} (k : Nat), sEqs xs ys = some b → ∃ c d, sEqs (xs.take k) (ys.take k) = some c ∧ sEqs (xs.drop k) (ys.drop k) = some d ∧ b = (c && d)
  | xs, ys, b, 0, h => ⟨true, b, by simp [sEqs], by simpa using h, by simp⟩
  | [], [], b, k + 1, h => ⟨true, b, by simp [sEqs], by simpa using h, by simp⟩
  | x :: xs, y :: ys, b, k + 1, h => by
    simp only [sEqs] at h
    split at h
    · rename_i b1 b2 h1 h2
      cases h
      obtain ⟨c, d, h3, h4, rfl⟩ := sEqs_split k h2
      exact ⟨b1 && c, d, by simp [sEqs, h1, h3], by simpa using h4, by simp [Bool.and_assoc]⟩
    · cases h
  | [], _ :: _, _, _ + 1, h => by simp [sEqs] at h
  | _ :: _, [], _, _ + 1, h => by simp [sEqs] at h
theorem run_isAgg_scalar {t : TypeId} {d : TypeDesc} (hu : P.underlying t = some d) (hd : d.isRow = false) : (isAgg t).run P w = .ok false w := by
  unfold isAgg
  rw [Sem.run_bind, run_underlying hu w]
  cases d <;> simp_all
theorem run_isAgg_row {t : TypeId} {d : TypeDesc} (hu : P.underlying t = some d) (hd : d.isRow = true) : (isAgg t).run P w = .ok true w := by
  unfold isAgg
  rw [Sem.run_bind, run_underlying hu w]
  cases d <;> simp_all
theorem run_size {t : TypeId} (h : (P.underlying t).isSome = true) : (Go.sizeOf t).run P w = .ok (P.cellsOf t) w := by
  unfold Program.underlying at h
  cases hq : P.info? t with
  | none => simp [hq] at h
  | some i => simp [Go.sizeOf, typeInfo, hq, Program.cellsOf]
def tagV : Value → Nat
  | .bool _ => 0
  | .int _ _ => 1
  | .string _ => 2
  | _ => 3
theorem tags_rel : ∀ {ks : List Nat} {as : List A} {xs : List Value}, relAs ν N as xs → tagsEq ks as = true → (∀ k ∈ ks, k < 3) → xs.map tagV = ks
  | [], [], [], _, _, _ => rfl
  | k :: ks, a :: as, x :: xs, h, ht, hk => by
    simp only [tagsEq, Bool.and_eq_true] at ht
    have e : k = tagA a := Nat.eq_of_beq_eq_true ht.1
    have h3 := hk k (by simp)
    have : tagV x = k := by
      rw [e] at h3 ⊢
      obtain ⟨⟨hr, _⟩, _⟩ := h
      cases a with
      | l y => obtain ⟨_, rfl⟩ := hr; cases y <;> rfl
      | _ => simp [tagA] at h3
    simp [this, tags_rel h.2 ht.2 fun k hk' => hk k (by simp [hk'])]
  | [], _ :: _, _, _, h, _ => by simp [tagsEq] at h
  | _ :: _, [], _, _, h, _ => by simp [tagsEq] at h
  | _, [], _ :: _, h, _, _ => h.elim
  | _, _ :: _, [], h, _, _ => h.elim
abbrev PlainEq (P : Program) (w : World) (n : Nat) : Prop := ∀ {t : TypeId} {ks : List Nat}, plainG P n t = some ks → ∀ (d : Nat) (xs ys : Array Value) (o : Nat) (b : Bool), n ≤ d → P.cellsOf t = ks.length →
    ((xs.toList.drop o).take ks.length).map tagV = ks → sEqs ((xs.toList.drop o).take ks.length) ((ys.toList.drop o).take ks.length) = some b →
    ∃ u v, (part t xs o).run P w = .ok u w ∧ (part t ys o).run P w = .ok v w ∧ (Op.equalIn d t u v).run P w = .ok b w
theorem fields_eq {n : Nat} (ih : PlainEq P w n) : ∀ (fs : List Field) (o : Nat) (ks : List Nat), plainF (plainG P n) P.cellsOf fs o = some ks → ∀ (d : Nat) (xs ys : Array Value) (b : Bool), n ≤ d →
    ((xs.toList.drop o).take ks.length).map tagV = ks → sEqs ((xs.toList.drop o).take ks.length) ((ys.toList.drop o).take ks.length) = some b → (Op.eqFields d xs ys fs).run P w = .ok b w
  | [], o, ks, h, d, xs, ys, b, _, _, hs => by
    simp only [plainF] at h
    cases h
    simp [sEqs] at hs
    subst hs
    simp [Op.eqFields]
  | f :: fs, o, ks, h, d, xs, ys, b, hd, ht, hs => by
    simp only [plainF] at h
    split at h
    · rename_i k1 h1
      split at h
      · rename_i k2 hc h2
        cases h
        simp only [Bool.and_eq_true, Bool.not_eq_true', Nat.beq_eq_true_eq] at hc
        obtain ⟨ho, hsz, hn⟩ := hc
        have ho := Nat.eq_of_beq_eq_true ho
        have hsz := Nat.eq_of_beq_eq_true hsz
        have hn' : f.name ≠ "_" := by simpa using hn
        obtain ⟨c, e, hc, he, rfl⟩ := sEqs_split k1.length hs
        simp only [List.take_take, List.drop_take, List.drop_drop, List.length_append, Nat.add_sub_cancel_left, Nat.min_eq_left (Nat.le_add_right k1.length k2.length)] at hc he
        have ht1 : ((xs.toList.drop o).take k1.length).map tagV = k1 := by
          have := congrArg (List.take k1.length) ht
          simpa [← List.map_take, List.take_take] using this
        have ht2 : ((xs.toList.drop (o + k1.length)).take k2.length).map tagV = k2 := by
          have := congrArg (List.drop k1.length) ht
          simpa [← List.map_drop, List.drop_take, List.drop_drop] using this
        obtain ⟨u, v, p1, p2, p3⟩ := ih h1 d xs ys o c hd hsz ht1 hc
        have p4 := fields_eq ih fs (o + k1.length) k2 h2 d xs ys e hd ht2 he
        rw [← ho] at p1 p2
        simp only [Op.eqFields, if_pos hn', Sem.run_bind, p1, p2, p3, Result.andThen_ok]
        cases c
        · simp
        · simpa using p4
      · cases h
    · cases h
/-- Plain values compare scalar by scalar. -/
theorem plain_eq : ∀ (n : Nat) {t : TypeId} {ks : List Nat}, plainG P n t = some ks → ∀ (d : Nat) (xs ys : Array Value) (o : Nat) (b : Bool), n ≤ d → P.cellsOf t = ks.length →
    ((xs.toList.drop o).take ks.length).map tagV = ks → sEqs ((xs.toList.drop o).take ks.length) ((ys.toList.drop o).take ks.length) = some b →
    ∃ u v, (part t xs o).run P w = .ok u w ∧ (part t ys o).run P w = .ok v w ∧ (Op.equalIn d t u v).run P w = .ok b w
  | 0, _, _, h => by simp [plainG] at h
  | n + 1, t, ks, h => by
    intro d xs ys o b hd hk htag hs
    obtain ⟨d, rfl⟩ : ∃ m, d = m + 1 := ⟨d - 1, by omega⟩
    have scalar : ∀ {de : TypeDesc} {k : Nat}, P.underlying t = some de → de.isRow = false → ks = [k] → (∀ u v c, sEq u v = some c → tagV u = k → (Op.equalIn (d + 1) t u v).run P w = .ok c w) →
        ∃ u v, (part t xs o).run P w = .ok u w ∧ (part t ys o).run P w = .ok v w ∧ (Op.equalIn (d + 1) t u v).run P w = .ok b w := by
      intro de k hu hr h1 heq
      subst h1
      simp only [List.length_cons, List.length_nil, Nat.zero_add] at htag hs
      cases ex : xs.toList.drop o with
      | nil => simp [ex] at htag
      | cons x xr =>
        cases ey : ys.toList.drop o with
        | nil => simp [ex, ey, sEqs] at hs
        | cons y yr =>
          simp only [ex, ey, List.take_succ_cons, List.take_zero, sEqs, List.map_cons, List.map_nil, List.cons.injEq, and_true] at htag hs
          have e1 : xs[o]? = some x := by
            have := congrArg List.head? ex
            simpa using this
          have e2 : ys[o]? = some y := by
            have := congrArg List.head? ey
            simpa using this
          cases hq : sEq x y with
          | none => simp [hq] at hs
          | some c =>
            simp [hq] at hs
            subst hs
            exact ⟨x, y, by simp [part, run_isAgg_scalar hu hr, e1], by simp [part, run_isAgg_scalar hu hr, e2], heq _ _ _ hq htag⟩
    simp only [plainG] at h
    split at h
    · rename_i hu
      cases h
      refine scalar hu rfl rfl fun u v c hc ht => ?_
      cases u <;> simp [tagV] at ht
      cases v <;> simp [sEq] at hc
      subst hc
      simp [Op.equalIn, run_underlying hu, Bool.beq_eq_decide_eq]
    · rename_i k hu
      cases h
      refine scalar hu rfl rfl fun u v c hc ht => ?_
      cases u <;> simp [tagV] at ht
      cases v <;> simp [sEq] at hc
      obtain ⟨h1, h2⟩ := hc
      subst h1 h2
      simp [Op.equalIn, run_underlying hu, Bool.beq_eq_decide_eq]
    · rename_i hu
      cases h
      refine scalar hu rfl rfl fun u v c hc ht => ?_
      cases u <;> simp [tagV] at ht
      cases v <;> simp [sEq] at hc
      subst hc
      simp [Op.equalIn, run_underlying hu]
    · rename_i fs hu
      split at h
      · rename_i hst
        have hfs : P.fieldsOf t = fs := by simp [Program.fieldsOf, hu]
        refine ⟨.agg (xs.extract o (o + P.cellsOf t)), .agg (ys.extract o (o + P.cellsOf t)), ?_, ?_, ?_⟩
        · simp [part, run_isAgg_row hu rfl, run_size (P := P) (w := w) (t := t) (by simp [hu])]
        · simp [part, run_isAgg_row hu rfl, run_size (P := P) (w := w) (t := t) (by simp [hu])]
        · rw [run_equalIn_struct (P := P) w d t _ _ (by rw [hfs]; exact hu) hst, hfs]
          refine fields_eq (fun h => plain_eq n h) fs.toList 0 ks h d _ _ b (by omega) ?_ ?_
          · rw [hk]; simpa [List.take_take] using htag
          · rw [hk]; simpa [List.take_take] using hs
      · cases h
    · cases h
theorem plainF_lt {f : TypeId → Option (List Nat)} {size : TypeId → Nat} (hf : ∀ t ks, f t = some ks → ∀ k ∈ ks, k < 3) : ∀ (fs : List Field) (o : Nat) (ks : List Nat), plainF f size fs o = some ks → ∀ k ∈ ks, k < 3
  | [], o, ks, h => by simp only [plainF] at h; cases h; simp
  | fd :: fs, o, ks, h => by
    simp only [plainF] at h
    split at h
    · rename_i k1 h1
      split at h
      · rename_i k2 hc h2
        cases h
        intro k hk
        rcases List.mem_append.1 hk with hk | hk
        · exact hf _ _ h1 k hk
        · exact plainF_lt hf fs _ _ h2 k hk
      · cases h
    · cases h
theorem plainG_lt : ∀ (n : Nat) (t : TypeId) (ks : List Nat), plainG P n t = some ks → ∀ k ∈ ks, k < 3
  | 0, _, _, h => by simp [plainG] at h
  | n + 1, t, ks, h => by
    simp only [plainG] at h
    split at h
    · cases h; simp
    · cases h; simp
    · cases h; simp
    · split at h
      · exact plainF_lt (plainG_lt n) _ _ _ h
      · cases h
    · cases h
theorem run_equal_agg {t : TypeId} {as bs : List A} {xs ys : Array Value} {b : Bool} (hx : relAs ν N as xs.toList) (hy : relAs ν N bs ys.toList) (hp : plainB P t as = true) (he : eqs as bs = some b) :
    (Op.equal t (.agg xs) (.agg ys)).run P w = .ok b w := by
  unfold plainB at hp
  split at hp
  · rename_i fs hu hst hgu
    split at hp
    · rename_i ks hks
      have htag := tags_rel hx hp (plainF_lt (plainG_lt 8) _ _ _ hks)
      have hs := eqs_sEqs hx hy he
      have hl : xs.toList.length = ks.length := by have := congrArg List.length htag; simpa using this
      have hl2 : ys.toList.length = ks.length := by
        have h1 := relAs_length hx
        have h2 := relAs_length hy
        have : ∀ {xs ys : List Value} {b : Bool}, sEqs xs ys = some b → xs.length = ys.length := by
          intro xs
          induction xs with
          | nil => intro ys b h; cases ys with
            | nil => rfl
            | cons y ys => simp [sEqs] at h
          | cons x xs ih => intro ys b h; cases ys with
            | nil => simp [sEqs] at h
            | cons y ys =>
              simp only [sEqs] at h
              split at h
              · rename_i h2
                simp [ih h2]
              · cases h
        rw [← this hs, hl]
      have hfs : P.fieldsOf t = fs := by simp [Program.fieldsOf, hu]
      show (Op.equalIn (9999 + 1) t _ _).run P w = _
      rw [run_equalIn_struct (P := P) w 9999 t _ _ (by rw [hfs]; exact hu) hst, hfs]
      refine fields_eq (fun h => plain_eq 8 h) fs.toList 0 ks hks 9999 _ _ b (by omega) ?_ ?_
      · rw [List.drop_zero, List.take_of_length_le (by omega)]; exact htag
      · rw [List.drop_zero, List.drop_zero, List.take_of_length_le (by omega), List.take_of_length_le (by omega)]; exact hs
    · cases hp
  · cases hp
theorem guard_agg {op : BinOp} {t : TypeId} {as : List A} {xo yo : Operand} {xs ys : Array Value} (hp : plainB P t as = true) : (eqGuard op t xo yo (.agg xs) (.agg ys)).run P w = .ok () w := by
  unfold plainB at hp
  split at hp
  · rename_i fs hu hst hgu
    exact run_eqGuard_agg w op t xo yo xs ys hgu
  · cases hp
theorem onlyIf_out {c : Bool} {x : Fl} {r : R} (h : (onlyIf c x).Out r) : c = true ∧ x.Out r := by
  cases c
  · exact h.elim
  · exact ⟨rfl, h⟩
theorem run_eqIn_bool (d : Nat) {t : TypeId} {a b : Bool} (hu : P.underlying t = some .bool) : (Op.equalIn (d + 1) t (.bool a) (.bool b)).run P w = .ok (decide (a = b)) w := by
  simp [Op.equalIn, run_underlying hu, Bool.beq_eq_decide_eq]
theorem run_eq_bool {t : TypeId} {a b : Bool} (h : isBoolT P t = true) : (Op.equal t (.bool a) (.bool b)).run P w = .ok (decide (a = b)) w := by
  unfold isBoolT at h
  split at h
  · rename_i hu
    exact run_eqIn_bool 9999 hu
  · cases h
theorem run_eqIn_ptr (d : Nat) {t e : TypeId} {a : Option Addr} (hu : P.underlying t = some (.pointer e)) : (Op.equalIn (d + 1) t (.pointer a) (.pointer none)).run P w = .ok a.isNone w := by
  cases a <;> simp [Op.equalIn, run_underlying hu]
theorem run_eq_ptr {t : TypeId} {a : Option Addr} (h : isPtrT P t = true) : (Op.equal t (.pointer a) (.pointer none)).run P w = .ok a.isNone w := by
  unfold isPtrT at h
  split at h
  · rename_i hu
    exact run_eqIn_ptr 9999 hu
  · cases h
theorem binop_sound {op : BinOp} {t : TypeId} {xo yo : Operand} {x y r : R} {u v : Value} (hx : relR ν N x u) (hy : relR ν N y v) (h : (binop P op t x y).Out r) :
    ∃ z, relR ν N r z ∧ (bin op t xo yo u v).run P w = .ok z w := by
  unfold binop at h
  split at h
  · obtain ⟨hr, rfl⟩ := relI hx
    obtain ⟨_, rfl⟩ := relI hy
    exact shift_sound hr h
  · obtain ⟨hr, rfl⟩ := relI hx
    obtain ⟨_, rfl⟩ := relI hy
    exact shift_sound hr h
  · obtain ⟨hr, rfl⟩ := relI hx
    obtain ⟨_, rfl⟩ := relI hy
    split at h
    · rename_i hk
      have := of_decide_eq_true hk
      subst this
      exact arith_sound hr h
    · exact h.elim
  · obtain ⟨_, rfl⟩ := hx
    obtain ⟨_, rfl⟩ := hy
    obtain ⟨ht, h⟩ := onlyIf_out h
    cases h
    exact ⟨_, relB_mk _, by simp [bin, L.val, eqGuard_at_bool, binOp, run_eq_bool ht]⟩
  · obtain ⟨_, rfl⟩ := hx
    obtain ⟨_, rfl⟩ := hy
    obtain ⟨ht, h⟩ := onlyIf_out h
    cases h
    exact ⟨_, relB_mk _, by simp [bin, L.val, eqGuard_at_bool, binOp, run_eq_bool ht]⟩
  · obtain ⟨hx, rfl⟩ := hx
    obtain ⟨hy, rfl⟩ := hy
    cases h
    exact ⟨_, relB_mk _, by simp [bin, L.val, eqGuard_at_string, binOp, Op.stringOp, strEq hx hy]⟩
  · obtain ⟨hx, rfl⟩ := hx
    obtain ⟨hy, rfl⟩ := hy
    cases h
    exact ⟨_, relB_mk _, by simp [bin, L.val, eqGuard_at_string, binOp, Op.stringOp, strEq hx hy]⟩
  · obtain ⟨hx, rfl⟩ := hx
    obtain ⟨hy, rfl⟩ := hy
    obtain ⟨hl, h⟩ := h
    cases h
    refine ⟨_, ⟨fun c hc => (List.mem_append.1 hc).elim (hx c) (hy c), rfl⟩, ?_⟩
    rename_i xs ys
    have hsum := run_string_add_sum (P := P) (w := w) (toBA xs) (toBA ys) (by simpa [toBA, ByteArray.size] using hl)
    have e : toBA xs ++ toBA ys = toBA (xs ++ ys) := by
      apply ByteArray.ext
      simp [toBA, ByteArray.data_append]
    rw [e] at hsum
    simp [bin, L.val, eqGuard_at_string, binOp, hsum]
  · cases hx; cases hy
    obtain ⟨ht, h⟩ := onlyIf_out h
    cases h
    exact ⟨_, relB_mk _, by simp [bin, eqGuard_at_pointer, binOp, run_eq_ptr ht]⟩
  · cases hx; cases hy
    obtain ⟨ht, h⟩ := onlyIf_out h
    cases h
    exact ⟨_, relB_mk _, by simp [bin, eqGuard_at_pointer, binOp, run_eq_ptr ht]⟩
  · obtain ⟨_, rfl⟩ := hx; cases hy
    obtain ⟨ht, h⟩ := onlyIf_out h
    cases h
    exact ⟨_, relB_mk _, by simp [bin, eqGuard_at_pointer, binOp, run_eq_ptr ht]⟩
  · obtain ⟨_, rfl⟩ := hx; cases hy
    obtain ⟨ht, h⟩ := onlyIf_out h
    cases h
    exact ⟨_, relB_mk _, by simp [bin, eqGuard_at_pointer, binOp, run_eq_ptr ht]⟩
  · obtain ⟨us, rfl, hx⟩ := hx
    obtain ⟨vs, rfl, hy⟩ := hy
    split at h
    · rename_i b hp he
      cases h
      exact ⟨_, relB_mk _, by simp [bin, guard_agg hp, binOp, run_equal_agg hx hy hp he]⟩
    · exact h.elim
  · obtain ⟨us, rfl, hx⟩ := hx
    obtain ⟨vs, rfl, hy⟩ := hy
    split at h
    · rename_i b hp he
      cases h
      exact ⟨_, relB_mk _, by simp [bin, guard_agg hp, binOp, run_equal_agg hx hy hp he]⟩
    · exact h.elim
  · exact h.elim
end
end Sx
