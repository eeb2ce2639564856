/- A symbolic walk: what its words stand for; quiet operations. -/
import Derived.Test.YtcilcmbailoeaaaSxB
import Derived.Deep.MidRow
set_option linter.all false
namespace Sx
open Go
structure Nu where
  blk : Nat → Nat
  sv : Nat → Value
  fp : Nat → Nat → Prop
def okS (xs : List Int) : Prop := ∀ x ∈ xs, 0 ≤ x ∧ x ≤ 255
def toBA (xs : List Int) : ByteArray := ⟨(xs.map fun x => UInt8.ofNat x.toNat).toArray⟩
def L.val : L → Value
  | .b x => .bool x
  | .i k n => .int k n
  | .s xs => .string (toBA xs)
def L.wf : L → Prop
  | .b _ => True
  | .i k n => lo k ≤ n ∧ n ≤ hi k
  | .s xs => okS xs
def addA (base : Option Addr) (n : Nat) : Option Addr := base.map fun a => ⟨a.block, a.off + n, none⟩
/-- A slice's header. -/
def okSl (base : Option Addr) (n cap : Nat) : Prop := (n ≤ cap ∧ cap ≤ maxLen) ∧ (∀ x, base = some x → x.spot = none) ∧ (base = none → cap = 0)
/-- A cell's word stands for a value; its labels lie below N. -/
def relA (ν : Nu) (N : Nat) : A → Value → Prop
  | .junk, _ => True
  | .l x, v => x.wf ∧ v = x.val
  | .p l o, v => l < N ∧ v = .pointer (some ⟨ν.blk l, o, none⟩)
  | .e l z i o, v => l < N ∧ ∃ b off n cap, ν.sv l = .slice (some ⟨b, off, none⟩) n cap ∧ i < n ∧ v = .pointer (some ⟨b, off + i * z + o, none⟩)
  | .np, v => v = .pointer none
  | .f l n, v => l < N ∧ v = ν.sv l ∧ ∃ base cap, ν.sv l = .slice base n cap ∧ okSl base n cap
  | .sb l z a b, v => l < N ∧ ∃ base n cap base', ν.sv l = .slice base n cap ∧ a ≤ b ∧ b ≤ n ∧ okSl base n cap ∧ v = .slice base' (b - a) (cap - a) ∧ (a < cap ∨ a = 0 → base' = addA base (a * z)) ∧ okSl base' (b - a) (cap - a)
  | .ns, v => v = .slice none 0 0
  | .z, v => ∃ base, v = .slice base 0 0 ∧ ∀ x, base = some x → x.spot = none
  | .fn f cs, v => (∀ q ∈ cs, q.1 < N) ∧ v = .func (.func f) #[] (cs.map fun q => Value.pointer (some ⟨ν.blk q.1, q.2, none⟩)).toArray
  | .o x, v => v = x ∧ x.oneCell' = true
  | .c l n, v => l < N ∧ n ≤ maxLen ∧ v = .slice (some ⟨ν.blk l, 0, none⟩) n n
def relC (ν : Nu) (N : Nat) (a : A) (v : Value) : Prop := relA ν N a v ∧ v.oneCell' = true
def relAs (ν : Nu) (N : Nat) : List A → List Value → Prop
  | [], [] => True
  | a :: as, v :: vs => relC ν N a v ∧ relAs ν N as vs
  | _, _ => False
def relV (ν : Nu) (N : Nat) : V → Value → Prop
  | .one a, v => relA ν N a v
  | .agg cs, v => ∃ vs : Array Value, v = .agg vs ∧ relAs ν N cs vs.toList
def relVs (ν : Nu) (N : Nat) : List V → List Value → Prop
  | [], [] => True
  | a :: as, v :: vs => relV ν N a v ∧ relVs ν N as vs
  | _, _ => False
def relR (ν : Nu) (N : Nat) : R → Value → Prop
  | .v x, v => relV ν N x v
  | .tup xs, v => ∃ vs : Array Value, v = .tuple vs ∧ relVs ν N xs vs.toList
def relT (ν : Nu) (N : Nat) (tm : List R) (ts : Array Value) : Prop := tm.length = ts.size ∧ ∀ i, relR ν N (tm.getD i .junk) (ts.getD i undef)
def flat (ks : List Kd) (xs : List (Tup ks)) : List Value := xs.flatMap fun x => (leafs ks x).map L.val
def wfT (ks : List Kd) (xs : List (Tup ks)) : Prop := ∀ x ∈ xs, ∀ l ∈ leafs ks x, l.wf
/-- What a label stands for, in a world. -/
def obH (ν : Nu) (N : Nat) (w : World) (l : Nat) : Ob → Prop
  | .cells cs => (∀ b, ν.fp l b ↔ b = ν.blk l) ∧ ∃ vs T, w.heap[ν.blk l]? = some (.cells vs T (0, 0)) ∧ relAs ν N cs vs.toList
  | .row true ks xs => 0 < ks.length ∧ wfT ks xs ∧ (∀ b, ν.fp l b ↔ (ν.sv l).ownBlock = some b) ∧ ∃ e, w.ownsRow 0 e ks.length (ν.sv l) xs.length (flat ks xs)
  | .row false ks xs => 0 < ks.length ∧ wfT ks xs ∧ (∀ b, ν.fp l b ↔ (ν.sv l).ownBlock = some b ∧ xs ≠ []) ∧ ∃ base cap, ν.sv l = .slice base xs.length cap ∧ okSl base xs.length cap ∧
      ∀ j v, (flat ks xs)[j]? = some v → ∃ a, base = some a ∧ w.cell? (a.add j) = some v
  | .abs r => (∀ b, ν.fp l b → b < w.heap.size) ∧ ∀ w' : World, (∀ b, ν.fp l b → w'.heap[b]? = w.heap[b]?) → r w' (ν.blk l) (ν.fp l)
  | .gone => True
def fpO (ν : Nu) (l : Nat) : Ob → Nat → Prop
  | .gone, _ => False
  | _, b => ν.fp l b
structure hpH (ν : Nu) (N : Nat) (w : World) (H : Hp) : Prop where
  ob : ∀ l o, hget H l = some o → l < N ∧ obH ν N w l o
  st : ∀ l o, hget H l = some o → hst H l < N
  ap : ∀ l l' o o', l ≠ l' → hget H l = some o → hget H l' = some o' → (ownOb o = true ∨ ownOb o' = true) → ∀ b, fpO ν l o b → fpO ν l' o' b → False
/-! ### what quiet operations come to -/
def Fl.Out (r : R) : Fl → Prop
  | .bad => False
  | .ok r' => r = r'
  | .ob p x => p ∧ x.Out r
  | .alt c x y => if c = true then x.Out r else y.Out r
theorem Fl.holds_out {K : R → Prop} : ∀ {f : Fl}, f.holds K → ∃ r, f.Out r ∧ K r
  | .bad, h => h.elim
  | .ok r, h => ⟨r, rfl, h⟩
  | .ob p x, h => let ⟨r, h1, h2⟩ := Fl.holds_out (f := x) h.2; ⟨r, ⟨h.1, h1⟩, h2⟩
  | .alt true x y, h => let ⟨r, h1, h2⟩ := Fl.holds_out (f := x) h; ⟨r, by simpa [Fl.Out] using h1, h2⟩
  | .alt false x y, h => let ⟨r, h1, h2⟩ := Fl.holds_out (f := y) h; ⟨r, by simpa [Fl.Out] using h1, h2⟩
section
variable {ν : Nu} {N : Nat}
theorem relA_one {a : A} {v : Value} (h : relA ν N a v) (hj : a ≠ .junk) : v.oneCell' = true := by
  cases a with
  | junk => exact absurd rfl hj
  | l x => obtain ⟨_, rfl⟩ := h; cases x <;> rfl
  | p l o => obtain ⟨_, rfl⟩ := h; rfl
  | e l z i o => obtain ⟨_, b, off, n, cap, _, _, rfl⟩ := h; rfl
  | np => cases h; rfl
  | f l n => obtain ⟨_, rfl, base, cap, h, _⟩ := h; rw [h]; rfl
  | sb l z a b => obtain ⟨_, base, n, cap, base', _, _, _, _, rfl, _⟩ := h; rfl
  | ns => cases h; rfl
  | z => obtain ⟨_, rfl, _⟩ := h; rfl
  | fn f cs => obtain ⟨_, rfl⟩ := h; rfl
  | o x => obtain ⟨rfl, h⟩ := h; exact h
  | c l n => obtain ⟨_, _, rfl⟩ := h; rfl
theorem relAs_length : ∀ {cs : List A} {vs : List Value}, relAs ν N cs vs → cs.length = vs.length
  | [], [], _ => rfl
  | _ :: _, _ :: _, h => by simp [relAs_length h.2]
  | [], _ :: _, h => h.elim
  | _ :: _, [], h => h.elim
theorem relAs_get : ∀ {cs : List A} {vs : List Value}, relAs ν N cs vs → ∀ i (h : i < vs.length), relC ν N (cs.getD i .junk) vs[i]
  | _ :: _, _ :: _, h, 0, _ => h.1
  | _ :: cs, _ :: vs, h, i + 1, hi => by simpa using relAs_get h.2 i (by simpa using hi)
  | [], _ :: _, h, _, _ => h.elim
theorem relAs_of : ∀ {cs : List A} {vs : List Value}, cs.length = vs.length → (∀ i (h : i < vs.length), relC ν N (cs.getD i .junk) vs[i]) → relAs ν N cs vs
  | [], [], _, _ => trivial
  | c :: cs, v :: vs, hl, h => ⟨h 0 (by simp), relAs_of (by simpa using hl) fun i hi => by have := h (i + 1) (by simpa using hi); simpa only [List.getD_cons_succ, List.getElem_cons_succ] using this⟩
theorem relAs_drop {cs : List A} {vs : List Value} (h : relAs ν N cs vs) (n : Nat) : relAs ν N (cs.drop n) (vs.drop n) := by
  have hl := relAs_length h
  refine relAs_of (by simp [hl]) fun i hi => ?_
  have := relAs_get h (n + i) (by simp at hi; omega)
  simpa [List.getD_eq_getElem?_getD] using this
theorem relAs_take {cs : List A} {vs : List Value} (h : relAs ν N cs vs) (n : Nat) : relAs ν N (cs.take n) (vs.take n) := by
  have hl := relAs_length h
  refine relAs_of (by simp [hl]) fun i hi => ?_
  have hi' : i < n ∧ i < vs.length := by simp at hi; omega
  have := relAs_get h i hi'.2
  simpa [List.getD_eq_getElem?_getD, List.getElem?_take, hi'.1] using this
theorem relAs_append : ∀ {cs ds : List A} {vs us : List Value}, relAs ν N cs vs → relAs ν N ds us → relAs ν N (cs ++ ds) (vs ++ us)
  | [], _, [], _, _, h => h
  | _ :: _, _, _ :: _, _, h, h' => ⟨h.1, relAs_append h.2 h'⟩
  | [], _, _ :: _, _, h, _ => h.elim
  | _ :: _, _, [], _, h, _ => h.elim
theorem toBA_bytes (s : ByteArray) : toBA (s.data.toList.map fun c => (c.toNat : Int)) = s := by
  cases s with
  | mk d =>
    unfold toBA
    have e : ((fun x : Int => UInt8.ofNat x.toNat) ∘ fun c : UInt8 => (c.toNat : Int)) = id := by funext c; simp
    simp [e]
theorem okS_bytes (s : ByteArray) : okS (s.data.toList.map fun c => (c.toNat : Int)) := by
  intro x hx
  simp only [List.mem_map] at hx
  obtain ⟨c, _, rfl⟩ := hx
  have := c.toNat_lt
  omega
theorem relA_cst (v : Value) : relA ν N (cstA v) v := by
  cases v with
  | bool b => exact ⟨trivial, rfl⟩
  | int k n =>
    simp only [cstA]
    split
    · rename_i h1 h2
      exact ⟨⟨of_decide_eq_true h1, of_decide_eq_true h2⟩, rfl⟩
    · trivial
  | string s => exact ⟨okS_bytes s, by simp [L.val, toBA_bytes]⟩
  | pointer a => cases a <;> first | rfl | exact ⟨rfl, rfl⟩
  | slice a n c =>
    by_cases h : a = none ∧ n = 0 ∧ c = 0
    · obtain ⟨rfl, rfl, rfl⟩ := h
      rfl
    · have e : cstA (.slice a n c) = .o (.slice a n c) := by
        cases a with
        | some a => rfl
        | none =>
          cases n with
          | succ n => rfl
          | zero => cases c with
            | succ c => rfl
            | zero => exact absurd ⟨rfl, rfl, rfl⟩ h
      rw [e]
      exact ⟨rfl, rfl⟩
  | agg cs => trivial
  | tuple vs => trivial
  | float k b => exact ⟨rfl, rfl⟩
  | complex k a b => exact ⟨rfl, rfl⟩
  | map r => exact ⟨rfl, rfl⟩
  | chan r => exact ⟨rfl, rfl⟩
  | func f a b => exact ⟨rfl, rfl⟩
  | nilFunc => exact ⟨rfl, rfl⟩
  | iface t v => exact ⟨rfl, rfl⟩
  | nilIface => exact ⟨rfl, rfl⟩
end
end Sx
