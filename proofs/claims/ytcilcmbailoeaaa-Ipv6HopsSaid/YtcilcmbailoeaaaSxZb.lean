/- A symbolic walk: tables of contracts; what a law's row asks. -/
import Derived.Test.YtcilcmbailoeaaaSxZa
import Derived.Below
set_option linter.all false
namespace Sx
open Go
def tab : List (Nat × Con) → FuncId → Option Con
  | [], _ => none
  | (g, S) :: r, f => match Nat.beq g f with
    | true => some S
    | false => tab r f
def Goods (P : Program) (L : List (Nat × Con)) : Prop := ∀ f S, tab L f = some S → Good P f S
theorem goods_nil (P : Program) : Goods P [] := fun f S h => by cases h
theorem goods_cons {P : Program} {L : List (Nat × Con)} {f : Nat} {S : Con} (h : Good P f S) (hL : Goods P L) : Goods P ((f, S) :: L) := by
  intro g S' hg
  simp only [tab] at hg
  split at hg
  · rename_i hb
    have := Nat.eq_of_beq_eq_true hb
    subst this
    cases hg
    exact h
  · exact hL g S' hg
/-- A contract that has one way, makes nothing and turns nothing. -/
@[reducible] def Con.pure (X : Type) (args : X → List V) (pre : X → Prop) (res : X → R) : Con := { X := X, args := args, heap := fun _ => [], pre := pre, outs := [{ Y := Unit, post := fun _ _ => True, res := fun x _ => res x, out := fun _ _ => [], nn := 0 }] }
/-! ### a law's arguments: rows that are read -/
def RoOK (w : World) (v : Value) (o : Ob) : Prop := ∃ ks xs base cap, o = .row false ks xs ∧ 0 < ks.length ∧ wfT ks xs ∧ v = .slice base xs.length cap ∧ okSl base xs.length cap ∧ ∀ j u, (flat ks xs)[j]? = some u → ∃ a, base = some a ∧ w.cell? (a.add j) = some u
def roNu (vs : List (Value × Ob)) : Nu := ⟨fun _ => 0, fun l => (vs.map (·.1)).getD l undef, fun l b => match vs[l]? with
  | some (v, Ob.row _ _ xs) => v.ownBlock = some b ∧ xs ≠ []
  | _ => False⟩
theorem ro_heap {w : World} {vs : List (Value × Ob)} (h : ∀ q ∈ vs, RoOK w q.1 q.2) : hpH (roNu vs) (vs.map (·.2)).length w (heap0 (vs.map (·.2))) := by
  have at_ : ∀ l o, hget (heap0 (vs.map (·.2))) l = some o → ∃ v, vs[l]? = some (v, o) := by
    intro l o hl
    rw [hget_heap0] at hl
    simp only [List.getElem?_map, Option.map_eq_some_iff] at hl
    obtain ⟨⟨v, o'⟩, h1, rfl⟩ := hl
    exact ⟨v, h1⟩
  refine ⟨fun l o hl => ?_, fun l o hl => ?_, fun l l' o o' hne hl hl' hown => ?_⟩
  · obtain ⟨v, hv⟩ := at_ l o hl
    have hlt : l < vs.length := (List.getElem?_eq_some_iff.1 hv).1
    refine ⟨by simpa using hlt, ?_⟩
    obtain ⟨ks, xs, base, cap, ho, h1, h2, h3, h4, h5⟩ := h _ (List.mem_of_getElem? hv)
    have ho : o = .row false ks xs := ho
    subst ho
    have h3 : v = .slice base xs.length cap := h3
    have hs : (roNu vs).sv l = v := by simp [roNu, hv]
    exact ⟨h1, h2, fun b => by rw [hs]; simp [roNu, hv], base, cap, by rw [hs]; exact h3, h4, h5⟩
  · rw [hst_heap0]
    obtain ⟨v, hv⟩ := at_ l o hl
    have hlt : l < vs.length := (List.getElem?_eq_some_iff.1 hv).1
    simp only [List.length_map]
    omega
  · obtain ⟨v, hv⟩ := at_ l o hl
    obtain ⟨v', hv'⟩ := at_ l' o' hl'
    obtain ⟨_, _, _, _, ho, _⟩ := h _ (List.mem_of_getElem? hv)
    obtain ⟨_, _, _, _, ho', _⟩ := h _ (List.mem_of_getElem? hv')
    have ho : o = _ := ho
    have ho' : o' = _ := ho'
    rw [ho, ho'] at hown
    simp [ownOb] at hown
theorem ro_arg {w : World} {vs : List (Value × Ob)} {l : Nat} {v : Value} {ks : List Kd} {xs : List (Tup ks)} (h : RoOK w v (.row false ks xs)) (hl : vs[l]? = some (v, .row false ks xs)) : relV (roNu vs) (vs.map (·.2)).length (.one (.f l xs.length)) v := by
  have hlt : l < vs.length := (List.getElem?_eq_some_iff.1 hl).1
  obtain ⟨ks', xs', base, cap, ho, h1, h2, h3, h4, h5⟩ := h
  cases ho
  have hs : (roNu vs).sv l = v := by simp [roNu, hl]
  exact ⟨by simpa using hlt, hs.symm, base, cap, by rw [hs]; exact h3, h4⟩
/-- A law that is kept answers true, and leaves what was there as it was. -/
theorem Good.law {P : Program} {f : FuncId} {S : Con} (hg : Good P f S) (x : S.X) (hx : S.pre x) {w : World} {args : Array Value} {vs : List (Value × Ob)} (hvs : ∀ q ∈ vs, RoOK w q.1 q.2) (hh : S.heap x = vs.map (·.2)) (hv : relVs (roNu vs) (S.heap x).length (S.args x) args.toList)
    (hres : ∀ oc ∈ S.outs, ∀ y, oc.post x y → oc.res x y = .b true) : Calls P f args w fun e w' => e = .returned (.bool true) ∧ Go.RowKit.Below w.heap.size w w' := by
  have hH : hpH (roNu vs) (S.heap x).length w (heap0 (S.heap x)) := by rw [hh]; exact ro_heap hvs
  have := hg.2 x hx (roNu vs) w args.toList hv hH
  rw [show args.toList.toArray = args by simp] at this
  refine Calls.mono this ?_
  rintro e w' ⟨v, rfl, oc, hoc, y, hy, _, ν', hr, _, hm⟩
  rw [hres oc hoc y hy] at hr
  have hv : v = .bool true := hr.2
  refine ⟨by rw [hv], ⟨hm.go.os, hm.go.tape, hm.go.output, hm.go.size, fun k hk => hm.go.block k hk ?_⟩⟩
  rintro ⟨l, o, hl, ho, _⟩
  rw [hh, hget_heap0] at hl
  simp only [List.getElem?_map, Option.map_eq_some_iff] at hl
  obtain ⟨⟨v', o'⟩, h1, rfl⟩ := hl
  obtain ⟨_, _, _, _, ho', _⟩ := hvs _ (List.mem_of_getElem? h1)
  have ho' : o' = _ := ho'
  rw [ho'] at ho
  cases ho
/-- A contract under other words. -/
theorem good_as {P : Program} {f : FuncId} {S S' : Con} (hg : Good P f S) (h : ∀ x' : S'.X, S'.pre x' → ∃ x : S.X, S.pre x ∧ S.args x = S'.args x' ∧ S.heap x = S'.heap x' ∧
    ∀ oc ∈ S.outs, ∃ oc' ∈ S'.outs, oc.nn = oc'.nn ∧ ∀ y, oc.post x y → ∃ y', oc'.post x' y' ∧ oc.res x y = oc'.res x' y' ∧ oc.out x y = oc'.out x' y') : Good P f S' := by
  refine ⟨hg.1, fun x' hx' ν w args hv hH => ?_⟩
  obtain ⟨x, h1, h2, h3, h4⟩ := h x' hx'
  rw [← h2, ← h3] at hv
  rw [← h3] at hH
  refine Calls.mono (hg.2 x h1 ν w args hv hH) ?_
  rintro e w' ⟨v, rfl, oc, hoc, y, hy, hrest⟩
  obtain ⟨oc', m', nn, h5⟩ := h4 oc hoc
  obtain ⟨y', p1, p2, p3⟩ := h5 y hy
  refine ⟨v, rfl, oc', m', y', p1, ?_⟩
  rw [← p2, ← p3, ← h3, ← nn]
  exact hrest
theorem good_pure {P : Program} {f : FuncId} {X X' : Type} {args : X → List V} {pre : X → Prop} {res : X → R} {args' : X' → List V} {pre' : X' → Prop} {res' : X' → R} (hg : Good P f (.pure X args pre res))
    (h : ∀ x', pre' x' → ∃ x, pre x ∧ args x = args' x' ∧ res x = res' x') : Good P f (.pure X' args' pre' res') := by
  refine good_as hg fun x' hx' => ?_
  obtain ⟨x, h1, h2, h3⟩ := h x' hx'
  refine ⟨x, h1, h2, rfl, fun oc hoc => ⟨_, List.mem_singleton.2 rfl, ?_⟩⟩
  cases List.mem_singleton.1 hoc
  exact ⟨rfl, fun y hy => ⟨(), trivial, h3, rfl⟩⟩
/-- A contract that makes one row, and turns nothing. -/
@[reducible] def Con.row1 (X : Type) (args : X → List V) (heap : X → List Ob) (n : Nat) (pre : X → Prop) (ks : List Kd) (out : X → List (Tup ks)) (res : X → A → R) : Con :=
  { X := X, args := args, heap := heap, pre := pre, outs := [{ Y := Unit, post := fun _ _ => True, res := fun x _ => res x (.f n (out x).length), out := fun x _ => [(n, .row true ks (out x))], nn := 1 }] }
/-- A contract that only looks. -/
@[reducible] def Con.look (X : Type) (args : X → List V) (heap : X → List Ob) (pre : X → Prop) (res : X → R) : Con := { X := X, args := args, heap := heap, pre := pre, outs := [{ Y := Unit, post := fun _ _ => True, res := fun x _ => res x, out := fun _ _ => [], nn := 0 }] }
theorem ifB_b {c : Bool} {A B : Prop} (h1 : c = true → A) (h2 : c = false → B) : ifB c A B := by cases c; exact h2 rfl; exact h1 rfl
theorem ifB_d {p : Prop} [Decidable p] {A B : Prop} (h1 : p → A) (h2 : ¬ p → B) : ifB (decide p) A B := ifB_b (fun h => h1 (of_decide_eq_true h)) fun h => h2 (of_decide_eq_false h)
theorem ifB_nd {p : Prop} [Decidable p] {A B : Prop} (h1 : ¬ p → A) (h2 : p → B) : ifB (!decide p) A B := ifB_b (fun h => h1 (by simpa using h)) fun h => h2 (by simpa using h)
theorem ifB_nn {p q : Prop} [Decidable p] [Decidable q] {A T : Prop} (hA : ¬ p → ¬ q → A) (hT : p ∨ q → T) : ifB (!decide p) (ifB (!decide q) A T) T := ifB_nd (fun h => ifB_nd (fun k => hA h k) fun k => hT (.inr k)) fun h => hT (.inl h)
theorem ifB_nno {p q : Prop} [Decidable p] [Decidable q] {O A T : Prop} (o : ¬ p → O) (hA : ¬ p → ¬ q → A) (hT : p ∨ q → T) : ifB (!decide p) (O ∧ ifB (!decide q) A T) T := ifB_nd (fun h => ⟨o h, ifB_nd (fun k => hA h k) fun k => hT (.inr k)⟩) fun h => hT (.inl h)
theorem and_self_of {A : Prop} (h : A) : A ∧ A := ⟨h, h⟩
theorem ifB_ne {p : Prop} [Decidable p] {A B : Prop} (h : p) (hB : B) : ifB (!decide p) A B := ifB_nd (fun k => absurd h k) fun _ => hB
theorem ifB_eq {p : Prop} [Decidable p] {A B : Prop} (h : p) (hA : A) : ifB (decide p) A B := ifB_d (fun _ => hA) fun k => absurd h k
theorem ifB_nb {c : Bool} {A B : Prop} (h : c = true) (hB : B) : ifB (!c) A B := by subst h; exact hB
theorem ifB_tb {c : Bool} {A B : Prop} (h : c = true) (hA : A) : ifB c A B := by subst h; exact hA
theorem ifB_fb {c : Bool} {A B : Prop} (h : c = false) (hB : B) : ifB c A B := by subst h; exact hB
end Sx
