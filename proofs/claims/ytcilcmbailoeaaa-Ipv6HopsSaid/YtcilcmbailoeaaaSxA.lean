/- A symbolic walk: what a function's operations come to over a heap of which contents are known, as a proposition. The definitions. -/
import Derived.WalkKit
import Derived.Laws.StructEq
set_option linter.all false
namespace Sx
open Go

/-- Kinds of scalars. -/
inductive Kd | i (k : IntKind) | b | s
  deriving DecidableEq
@[reducible] def Kd.T : Kd → Type
  | .i _ => Int
  | .b => Bool
  | .s => List Int
/-- An element of a row: its scalars. -/
@[reducible] def Tup : List Kd → Type
  | [] => Unit
  | [k] => k.T
  | k :: k' :: ks => k.T × Tup (k' :: ks)
/-- A scalar. -/
inductive L | b (x : Bool) | i (k : IntKind) (n : Int) | s (xs : List Int)
def Kd.leaf : (k : Kd) → k.T → L
  | .i k, n => .i k n
  | .b, x => .b x
  | .s, xs => .s xs
def Kd.zero : (k : Kd) → k.T
  | .i _ => (0 : Int)
  | .b => false
  | .s => ([] : List Int)
def zT : (ks : List Kd) → Tup ks
  | [] => ()
  | [k] => k.zero
  | k :: k' :: ks => (k.zero, zT (k' :: ks))
def leafs : (ks : List Kd) → Tup ks → List L
  | [], _ => []
  | [k], x => [k.leaf x]
  | k :: k' :: ks, x => k.leaf x.1 :: leafs (k' :: ks) x.2
def Kd.un : (k : Kd) → L → Option k.T
  | .i k, .i k' n => if k = k' then some n else none
  | .b, .b x => some x
  | .s, .s xs => some xs
  | _, _ => none
def unleafs : (ks : List Kd) → List L → Option (Tup ks)
  | [], [] => some ()
  | [k], [x] => k.un x
  | k :: k' :: ks, x :: xs => match k.un x, unleafs (k' :: ks) xs with
    | some a, some as => some (a, as)
    | _, _ => none
  | _, _ => none
/-- One cell's content. -/
inductive A
  | junk
  | l (x : L)
  | p (l o : Nat)
  | e (l z i o : Nat)
  | np
  | f (l n : Nat)
  | sb (l z a b : Nat)
  | ns
  | z
  | fn (f : FuncId) (cs : List (Nat × Nat))
  | o (v : Value)
  | c (l n : Nat)
inductive V | one (a : A) | agg (cs : List A)
inductive R | v (x : V) | tup (xs : List V)
@[reducible] def R.i (k : IntKind) (n : Int) : R := .v (.one (.l (.i k n)))
@[reducible] def R.b (x : Bool) : R := .v (.one (.l (.b x)))
@[reducible] def R.a (x : A) : R := .v (.one x)
@[reducible] def V.i (k : IntKind) (n : Int) : V := .one (.l (.i k n))
@[reducible] def V.b (x : Bool) : V := .one (.l (.b x))
def R.junk : R := .v (.one .junk)
def R.unit : R := .tup []
/-- What a label stands for. -/
inductive Ob
  | cells (cs : List A)
  | row (own : Bool) (ks : List Kd) (xs : List (Tup ks))
  | abs (r : World → Nat → (Nat → Prop) → Prop)
  | gone
abbrev Hp := List (Nat × Nat × Ob)
def hget : Hp → Nat → Option Ob
  | [], _ => none
  | (l, _, o) :: h, k => match Nat.beq l k with
    | true => some o
    | false => hget h k
def hst : Hp → Nat → Nat
  | [], _ => 0
  | (l, s, _) :: h, k => match Nat.beq l k with
    | true => s
    | false => hst h k
def hset : Hp → Nat → Nat → Ob → Hp
  | [], k, s, o => [(k, s, o)]
  | (l, t, o') :: h, k, s, o => match Nat.beq l k with
    | true => (l, s, o) :: h
    | false => (l, t, o') :: hset h k s o
structure St where
  tmps : List R
  H : Hp
  nx : Nat
def ifB (c : Bool) (x y : Prop) : Prop := match c with
  | true => x
  | false => y

/-! ### constants, operands -/
def lo : IntKind → Int
  | .i8 => -128 | .i16 => -32768 | .i32 => -2147483648 | .i64 => -9223372036854775808 | _ => 0
def hi : IntKind → Int
  | .i8 => 127 | .i16 => 32767 | .i32 => 2147483647 | .i64 => 9223372036854775807
  | .u8 => 255 | .u16 => 65535 | .u32 => 4294967295 | .u64 => 18446744073709551615

def cstA : Value → A
  | .bool b => .l (.b b)
  | .int k n => match decide (lo k ≤ n), decide (n ≤ hi k) with
    | true, true => .l (.i k n)
    | _, _ => .junk
  | .string s => .l (.s (s.data.toList.map fun c => (c.toNat : Int)))
  | .pointer none => .np
  | .slice none 0 0 => .ns
  | .agg _ => .junk
  | .tuple _ => .junk
  | v => .o v
def cst : Value → R
  | .agg cs => match cs.toList.all fun c => c.oneCell' with
    | true => .v (.agg (cs.toList.map cstA))
    | false => .junk
  | .tuple _ => .junk
  | v => .v (.one (cstA v))
def ev (tm : List R) : Operand → R
  | .tmp t => tm.getD t .junk
  | .const v => cst v
  | .func f => .v (.one (.fn f []))
  | .global _ => .junk
def put (tm : List R) (d : Option Tmp) (r : R) : List R := match d with
  | some d => tm.set d r
  | none => tm

/-! ### types -/
def isAggT (P : Program) (t : TypeId) : Bool := match P.underlying t with
  | some (.struct _) => true
  | some (.array _ _) => true
  | _ => false
def elemT (P : Program) (t : TypeId) : Option TypeId := match P.underlying t with
  | some (.slice e) => some e
  | _ => none
def zkind : Value → Option Kd
  | .int k 0 => some (.i k)
  | .bool false => some .b
  | .string s => match s.size with
    | 0 => some .s
    | _ => none
  | _ => none
def mapO {α β : Type} (f : α → Option β) : List α → Option (List β)
  | [] => some []
  | a :: as => match f a, mapO f as with
    | some b, some bs => some (b :: bs)
    | _, _ => none
def zcells (P : Program) (t : TypeId) : Option (List Value) := match P.info? t with
  | some i => match i.zero with
    | some z => some z.cells.toList
    | none => none
  | none => none
/-- The scalars of a type's value. -/
def kindsT (P : Program) (t : TypeId) : Option (List Kd) := match zcells P t with
  | some cs => mapO zkind cs
  | none => none
def fieldT (P : Program) (s : TypeId) (f : Nat) : Option (Nat × TypeId) := match P.underlying s with
  | some (.struct fs) => match fs[f]? with
    | some fd => some (fd.offset, fd.type)
    | none => none
  | _ => none
def intT (P : Program) (t : TypeId) : Option IntKind := match P.underlying t with
  | some (.int k) => some k
  | _ => none

/-! ### arithmetic -/
inductive Fl
  | bad
  | ok (r : R)
  | ob (p : Prop) (x : Fl)
  | alt (c : Bool) (x y : Fl)
/-- Into a kind: what has no sign wraps; what has one must fit. -/
def into (k : IntKind) (z : Int) : Fl := match k with
  | .u8 => .ok (.i .u8 (z % 256))
  | .u16 => .ok (.i .u16 (z % 65536))
  | .u32 => .ok (.i .u32 (z % 4294967296))
  | .u64 => .ok (.i .u64 (z % 18446744073709551616))
  | k => .ob (lo k ≤ z ∧ z ≤ hi k) (.ok (.i k z))
def keep (k : IntKind) (z : Int) : Fl := .ok (.i k z)
def leB (a b : Int) : Bool := decide (a ≤ b)
def conv (k k' : IntKind) (z : Int) : Fl := match leB (lo k') (lo k), leB (hi k) (hi k') with
  | true, true => .ok (.i k' z)
  | _, _ => into k' z
def arith (op : BinOp) (k : IntKind) (x y : Int) : Fl := match op with
  | .add => into k (x + y)
  | .sub => into k (x - y)
  | .mul => into k (x * y)
  | .quo => .ob (0 ≤ x ∧ 0 < y) (.ok (.i k (x / y)))
  | .rem => .ob (0 ≤ x ∧ 0 < y) (.ok (.i k (x % y)))
  | .and => .ok (.i k (bits .and k x y))
  | .or => .ok (.i k (bits .or k x y))
  | .xor => .ok (.i k (bits .xor k x y))
  | .andNot => .ok (.i k (bits .andNot k x y))
  | .eql => .ok (.b (decide (x = y)))
  | .neq => .ok (.b (!decide (x = y)))
  | .lss => .ok (.b (decide (x < y)))
  | .leq => .ok (.b (decide (x ≤ y)))
  | .gtr => .ok (.b (decide (y < x)))
  | .geq => .ok (.b (decide (y ≤ x)))
  | _ => .bad
def shift (op : BinOp) (k : IntKind) (x y : Int) : Fl := match op with
  | .shl => .ob (0 ≤ y) (into k (x * 2 ^ (min y.toNat k.bits)))
  | .shr => .ob (0 ≤ y) (.ok (.i k (x / 2 ^ (min y.toNat k.bits))))
  | _ => .bad
def sameK (k k' : IntKind) : Bool := decide (k = k')
def leq : L → L → Option Bool
  | .i k x, .i k' y => match sameK k k' with
    | true => some (decide (x = y))
    | false => none
  | .b x, .b y => some (decide (x = y))
  | .s x, .s y => some (decide (x = y))
  | _, _ => none
/-- '==' of two structs of scalars. -/
def eqs : List A → List A → Option Bool
  | [], [] => some true
  | [.l x], [.l y] => leq x y
  | .l x :: xs, .l y :: ys => match leq x y, eqs xs ys with
    | some b, some c => some (b && c)
    | _, _ => none
  | _, _ => none
def plainF (f : TypeId → Option (List Nat)) (size : TypeId → Nat) : List Field → Nat → Option (List Nat)
  | [], _ => some []
  | fd :: fs, o => match f fd.type with
    | some ks => match Nat.beq fd.offset o && (Nat.beq (size fd.type) ks.length && !(fd.name == "_")), plainF f size fs (o + ks.length) with
      | true, some ks' => some (ks ++ ks')
      | _, _ => none
    | none => none
/-- The scalars of a plain type's value (0: a bool, 1: a number, 2: a string): its fields lie one behind the other. -/
def plainG (P : Program) : Nat → TypeId → Option (List Nat)
  | 0, _ => none
  | n + 1, t => match P.underlying t with
    | some .bool => some [0]
    | some (.int _) => some [1]
    | some .string => some [2]
    | some (.struct fs) => match P.stoodInHeld t with
      | false => plainF (plainG P n) P.cellsOf fs.toList 0
      | true => none
    | _ => none
def tagA : A → Nat
  | .l (.b _) => 0
  | .l (.i _ _) => 1
  | .l (.s _) => 2
  | _ => 3
def tagsEq : List Nat → List A → Bool
  | [], [] => true
  | k :: ks, a :: as => Nat.beq k (tagA a) && tagsEq ks as
  | _, _ => false
def plainB (P : Program) (t : TypeId) (as : List A) : Bool := match P.underlying t, P.stoodInHeld t, P.eqGuardType P.depth t with
  | some (.struct fs), false, false => match plainF (plainG P 8) P.cellsOf fs.toList 0 with
    | some ks => tagsEq ks as
    | none => false
  | _, _, _ => false
def isBoolT (P : Program) (t : TypeId) : Bool := match P.underlying t with
  | some .bool => true
  | _ => false
def isPtrT (P : Program) (t : TypeId) : Bool := match P.underlying t with
  | some (.pointer _) => true
  | _ => false
def onlyIf (c : Bool) (x : Fl) : Fl := match c with
  | true => x
  | false => .bad
def binop (P : Program) (op : BinOp) (t : TypeId) (x y : R) : Fl := match op, x, y with
  | .shl, .v (.one (.l (.i k a))), .v (.one (.l (.i _ b))) => shift .shl k a b
  | .shr, .v (.one (.l (.i k a))), .v (.one (.l (.i _ b))) => shift .shr k a b
  | op, .v (.one (.l (.i k a))), .v (.one (.l (.i k' b))) => match sameK k k' with
    | true => arith op k a b
    | false => .bad
  | .eql, .v (.one (.l (.b a))), .v (.one (.l (.b b))) => onlyIf (isBoolT P t) (.ok (.b (decide (a = b))))
  | .neq, .v (.one (.l (.b a))), .v (.one (.l (.b b))) => onlyIf (isBoolT P t) (.ok (.b (!decide (a = b))))
  | .eql, .v (.one (.l (.s a))), .v (.one (.l (.s b))) => .ok (.b (decide (a = b)))
  | .neq, .v (.one (.l (.s a))), .v (.one (.l (.s b))) => .ok (.b (!decide (a = b)))
  | .add, .v (.one (.l (.s a))), .v (.one (.l (.s b))) => .ob (a.length + b.length ≤ 9223372036854775807) (.ok (.v (.one (.l (.s (a ++ b))))))
  | .eql, .v (.one .np), .v (.one .np) => onlyIf (isPtrT P t) (.ok (.b true))
  | .neq, .v (.one .np), .v (.one .np) => onlyIf (isPtrT P t) (.ok (.b false))
  | .eql, .v (.one (.p _ _)), .v (.one .np) => onlyIf (isPtrT P t) (.ok (.b false))
  | .neq, .v (.one (.p _ _)), .v (.one .np) => onlyIf (isPtrT P t) (.ok (.b true))
  | .eql, .v (.agg xs), .v (.agg ys) => match plainB P t xs, eqs xs ys with
    | true, some b => .ok (.b b)
    | _, _ => .bad
  | .neq, .v (.agg xs), .v (.agg ys) => match plainB P t xs, eqs xs ys with
    | true, some b => .ok (.b !b)
    | _, _ => .bad
  | _, _, _ => .bad
def unop (op : UnOp) (x : R) : Fl := match op, x with
  | .not, .v (.one (.l (.b a))) => .ok (.b !a)
  | .neg, .v (.one (.l (.i k a))) => into k (0 - a)
  | .xor, .v (.one (.l (.i k a))) => .ok (.i k (bits .xor k (if k.signed then -1 else k.max) a))
  | _, _ => .bad
/-- What a slice's value holds. -/
def content (H : Hp) : A → Option (Bool × (ks : List Kd) × List (Tup ks))
  | .f l _ => match hget H l with
    | some (.row own ks xs) => some (own, ⟨ks, xs⟩)
    | _ => none
  | .sb l z a b => match hget H l with
    | some (.row own ks xs) => match Nat.beq z ks.length with
      | true => some (own, ⟨ks, (xs.take b).drop a⟩)
      | false => none
    | _ => none
  | _ => none
def bytesOf (H : Hp) : A → Option (List Int)
  | .ns => some []
  | .z => some []
  | a => match content H a with
    | some (_, ⟨[.i .u8], xs⟩) => some xs
    | _ => none
def convert (P : Program) (H : Hp) (src dst : TypeId) (x : R) : Fl := match P.underlying src, P.underlying dst, x with
  | some (.int _), some (.int k'), .v (.one (.l (.i k n))) => conv k k' n
  | some .string, some .string, .v (.one (.l (.s xs))) => .ok (.v (.one (.l (.s xs))))
  | some (.slice e), some .string, .v (.one a) => match P.underlying e, bytesOf H a with
    | some (.int .u8), some xs => .ok (.v (.one (.l (.s xs))))
    | _, _ => .bad
  | _, _, _ => .bad
def inB (o n : Nat) : Bool := Nat.ble o n
/-- A type that has cells. -/
def okT (P : Program) (t : TypeId) : Bool := inB 1 (P.cellsOf t) && (P.underlying t).isSome
/-- One of the first n places. -/
def among (i : Int) (f : Nat → Fl) : Nat → Nat → Fl
  | 0, _ => .bad
  | n + 1, j => .alt (decide (i = (j : Int))) (f j) (among i f n (j + 1))
def indexAddr (P : Program) (t : TypeId) (x i : R) : Fl := match P.underlying t, x, i with
  | some (.slice e), .v (.one (.f l n)), .v (.one (.l (.i _ i))) => onlyIf (inB 1 (P.cellsOf e)) <| .ob (0 ≤ i ∧ i < (n : Int)) (.ok (.a (.e l (P.cellsOf e) i.toNat 0)))
  | some (.slice e), .v (.one (.sb l z a b)), .v (.one (.l (.i _ i))) => onlyIf (inB 1 (P.cellsOf e) && Nat.beq z (P.cellsOf e)) <| .ob (0 ≤ i ∧ i < ((b - a : Nat) : Int)) (.ok (.a (.e l (P.cellsOf e) (a + i.toNat) 0)))
  | some (.array n e), .v (.one (.p l o)), .v (.one (.l (.i _ i))) => onlyIf (inB 1 (P.cellsOf e)) <| among i (fun j => .ok (.a (.p l (o + j * P.cellsOf e)))) n 0
  | some (.slice e), .v (.one (.c l n)), .v (.one (.l (.i _ i))) => onlyIf (inB 1 (P.cellsOf e)) <| .ob (0 ≤ i ∧ i < (n : Int)) (.ok (.a (.p l (i.toNat * P.cellsOf e))))
  | some (.array n e), .v (.one (.e l z j o)), .v (.one (.l (.i _ i))) => onlyIf (inB 1 (P.cellsOf e)) <| among i (fun m => .ok (.a (.e l z j (o + m * P.cellsOf e)))) n 0
  | _, _, _ => .bad
/-- A part of an aggregate. -/
def partV (P : Program) (t : TypeId) (cs : List A) (o : Nat) : V := match isAggT P t with
  | true => .agg ((cs.drop o).take (P.cellsOf t))
  | false => .one (cs.getD o .junk)
def index (P : Program) (t : TypeId) (x i : R) : Fl := match P.underlying t, x, i with
  | some (.array n e), .v (.agg cs), .v (.one (.l (.i _ i))) => onlyIf (okT P e && inB (n * P.cellsOf e) cs.length) <| among i (fun j => .ok (.v (partV P e cs (j * P.cellsOf e)))) n 0
  | _, _, _ => .bad
def field (P : Program) (t : TypeId) (x : R) (f : Nat) : Fl := match fieldT P t f, x with
  | some (o, u), .v (.agg cs) => onlyIf (okT P u && inB (o + P.cellsOf u) cs.length) <| .ok (.v (partV P u cs o))
  | _, _ => .bad
def fieldAddr (P : Program) (t : TypeId) (x : R) (f : Nat) : Fl := match fieldT P t f, x with
  | some (o, u), .v (.one (.p l o')) => match P.cellsOf u with
    | 0 => .bad
    | _ + 1 => .ok (.a (.p l (o' + o)))
  | some (o, u), .v (.one (.e l z i o')) => match P.cellsOf u with
    | 0 => .bad
    | _ + 1 => .ok (.a (.e l z i (o' + o)))
  | _, _ => .bad
/-- The cells of a row's element. -/
def cellsAt (ks : List Kd) (xs : List (Tup ks)) (i : Nat) : List A := (leafs ks (xs.getD i (zT ks))).map .l
def load (P : Program) (H : Hp) (t : TypeId) (x : R) : Fl := match x with
  | .v (.one (.p l o)) => match hget H l with
    | some (.cells cs) => onlyIf (okT P t && inB (o + P.cellsOf t) cs.length) <| .ok (.v (partV P t cs o))
    | _ => .bad
  | .v (.one (.e l z i o)) => match hget H l with
    | some (.row _ ks xs) => onlyIf (okT P t && (Nat.beq z ks.length && inB (o + P.cellsOf t) ks.length)) <| .ok (.v (partV P t (cellsAt ks xs i) o))
    | _ => .bad
  | _ => .bad
def slice (P : Program) (t : TypeId) (x : R) (low high : Option R) : Fl := match elemT P t with
  | none => .bad
  | some e => onlyIf (inB 1 (P.cellsOf e)) <| match x, low, high with
    | .v (.one (.f l n)), some (.v (.one (.l (.i _ i)))), none => .ob (0 ≤ i ∧ i ≤ (n : Int)) (.ok (.a (.sb l (P.cellsOf e) i.toNat n)))
    | .v (.one (.f l n)), none, some (.v (.one (.l (.i _ j)))) => .ob (0 ≤ j ∧ j ≤ (n : Int)) (.ok (.a (.sb l (P.cellsOf e) 0 j.toNat)))
    | .v (.one (.f l n)), some (.v (.one (.l (.i _ i)))), some (.v (.one (.l (.i _ j)))) => .ob (0 ≤ i ∧ i ≤ j ∧ j ≤ (n : Int)) (.ok (.a (.sb l (P.cellsOf e) i.toNat j.toNat)))
    | .v (.one (.sb l z a b)), some (.v (.one (.l (.i _ i)))), none => onlyIf (Nat.beq z (P.cellsOf e)) <| .ob (0 ≤ i ∧ i ≤ ((b - a : Nat) : Int)) (.ok (.a (.sb l z (a + i.toNat) b)))
    | .v (.one (.sb l z a b)), none, some (.v (.one (.l (.i _ j)))) => onlyIf (Nat.beq z (P.cellsOf e)) <| .ob (0 ≤ j ∧ j ≤ ((b - a : Nat) : Int)) (.ok (.a (.sb l z a (a + j.toNat))))
    | .v (.one (.sb l z a b)), some (.v (.one (.l (.i _ i)))), some (.v (.one (.l (.i _ j)))) => onlyIf (Nat.beq z (P.cellsOf e)) <| .ob (0 ≤ i ∧ i ≤ j ∧ j ≤ ((b - a : Nat) : Int)) (.ok (.a (.sb l z (a + i.toNat) (a + j.toNat))))
    | .v (.one .ns), some (.v (.one (.l (.i _ i)))), none => .ob (i = 0) (.ok (.a .ns))
    | .v (.one .ns), none, some (.v (.one (.l (.i _ j)))) => .ob (j = 0) (.ok (.a .ns))
    | .v (.one .ns), some (.v (.one (.l (.i _ i)))), some (.v (.one (.l (.i _ j)))) => .ob (i = 0 ∧ j = 0) (.ok (.a .ns))
    | _, _, _ => .bad
/-- Nothing of a slice, with no room behind it. -/
def slice3 (P : Program) (t : TypeId) (x h m : R) : Fl := match elemT P t with
  | none => .bad
  | some e => onlyIf (inB 1 (P.cellsOf e)) <| match x, h, m with
    | .v (.one (.f _ _)), .v (.one (.l (.i _ i))), .v (.one (.l (.i _ j))) => .ob (i = 0 ∧ j = 0) (.ok (.a .z))
    | .v (.one (.sb _ _ _ _)), .v (.one (.l (.i _ i))), .v (.one (.l (.i _ j))) => .ob (i = 0 ∧ j = 0) (.ok (.a .z))
    | .v (.one .ns), .v (.one (.l (.i _ i))), .v (.one (.l (.i _ j))) => .ob (i = 0 ∧ j = 0) (.ok (.a .ns))
    | .v (.one .z), .v (.one (.l (.i _ i))), .v (.one (.l (.i _ j))) => .ob (i = 0 ∧ j = 0) (.ok (.a .z))
    | _, _, _ => .bad
def extract (x : R) (k : Nat) : Fl := match x with
  | .tup vs => match vs[k]? with
    | some v => .ok (.v v)
    | none => .bad
  | _ => .bad
def pick (c x y : R) : Fl := match c with
  | .v (.one (.l (.b c))) => .alt c (.ok x) (.ok y)
  | _ => .bad
def lenOf (P : Program) (t : TypeId) (x : R) : Fl := match P.underlying t, x with
  | some (.slice _), .v (.one (.f _ n)) => .ok (.i .i64 (n : Int))
  | some (.slice _), .v (.one (.sb _ _ a b)) => .ok (.i .i64 ((b - a : Nat) : Int))
  | some (.slice _), .v (.one .ns) => .ok (.i .i64 0)
  | some (.slice _), .v (.one .z) => .ok (.i .i64 0)
  | some (.slice _), .v (.one (.c _ n)) => .ok (.i .i64 (n : Int))
  | some .string, .v (.one (.l (.s xs))) => .ob ((xs.length : Int) ≤ 9223372036854775807) (.ok (.i .i64 (xs.length : Int)))
  | _, _ => .bad
def capOf (P : Program) (t : TypeId) (x : R) : Fl := match P.underlying t, x with
  | some (.slice _), .v (.one .ns) => .ok (.i .i64 0)
  | _, _ => .bad
def maxR : List R → Fl
  | [.v (.one (.l (.i k x))), .v (.one (.l (.i k' y)))] => match sameK k k' with
    | true => .ok (.i k (max x y))
    | false => .bad
  | _ => .bad
def minR : List R → Fl
  | [.v (.one (.l (.i k x))), .v (.one (.l (.i k' y)))] => match sameK k k' with
    | true => .ok (.i k (min x y))
    | false => .bad
  | [.v (.one (.l (.i k x))), .v (.one (.l (.i k' y))), .v (.one (.l (.i k'' z)))] => match sameK k k', sameK k k'' with
    | true, true => .ok (.i k (min (min x y) z))
    | _, _ => .bad
  | _ => .bad
def nilCheck (x : R) : Fl := match x with
  | .v (.one (.p l o)) => .ok (.a (.p l o))
  | .v (.one (.e l z i o)) => .ok (.a (.e l z i o))
  | .v (.one (.fn f cs)) => .ok (.a (.fn f cs))
  | _ => .bad
def asCells : V → Option (List A)
  | .one .junk => none
  | .one a => some [a]
  | .agg cs => some cs
def setAt : List A → Nat → List A → List A
  | cs, _, [] => cs
  | cs, o, a :: as => setAt (cs.set o a) (o + 1) as
/-- The cells of a literal. -/
def fillA (place : Nat → Option (Nat × Nat)) : List A → List (Nat × R) → Option (List A)
  | cs, [] => some cs
  | cs, (i, r) :: rest => match place i, r with
    | some (o, z), .v v => match asCells v with
      | some vs => match Nat.beq vs.length z, inB (o + z) cs.length with
        | true, true => fillA place (setAt cs o vs) rest
        | _, _ => none
      | none => none
    | _, _ => none
/-- The cells of a type's zero value. -/
def zatoms (P : Program) (t : TypeId) : Option (List A) := match zcells P t with
  | some z => match z.all fun c => c.oneCell' with
    | true => some (z.map cstA)
    | false => none
  | none => none
def build (P : Program) (t : TypeId) (parts : List (Nat × R)) : Fl := match zatoms P t, P.underlying t with
  | some z, some (.struct fs) => onlyIf (fs.toList.all fun f => (P.info? f.type).isSome) <| match fillA (fun i => match fs[i]? with | some f => some (f.offset, P.cellsOf f.type) | none => none) z parts with
    | some cs => .ok (.v (.agg cs))
    | none => .bad
  | some z, some (.array _ e) => onlyIf (P.info? e).isSome <| match fillA (fun i => some (i * P.cellsOf e, P.cellsOf e)) z parts with
    | some cs => .ok (.v (.agg cs))
    | none => .bad
  | _, _ => .bad
def ptrsOf : List R → Option (List (Nat × Nat))
  | [] => some []
  | .v (.one (.p l o)) :: rs => match ptrsOf rs with
    | some ps => some ((l, o) :: ps)
    | none => none
  | _ => none
/-- An operation that turns nothing. -/
def fl (P : Program) (tm : List R) (H : Hp) : Op → Fl
  | .move x => .ok (ev tm x)
  | .assign x => .ok (ev tm x)
  | .pick c a b => pick (ev tm c) (ev tm a) (ev tm b)
  | .build t parts => build P t (parts.toList.map fun q => (q.1, ev tm q.2))
  | .load t a => load P H t (ev tm a)
  | .nilCheck x => nilCheck (ev tm x)
  | .binOp op t x y _ => binop P op t (ev tm x) (ev tm y)
  | .unOp op _ x => unop op (ev tm x)
  | .convert s d x => convert P H s d (ev tm x)
  | .makeFunc (.func f) first captured => match first.size, ptrsOf (captured.toList.map (ev tm)) with
    | 0, some ps => .ok (.a (.fn f ps))
    | _, _ => .bad
  | .slice t x l h none => slice P t (ev tm x) (l.map (ev tm)) (h.map (ev tm))
  | .slice t x none (some h) (some m) => slice3 P t (ev tm x) (ev tm h) (ev tm m)
  | .fieldAddr t x f => fieldAddr P t (ev tm x) f
  | .field t x f => field P t (ev tm x) f
  | .indexAddr t x i => indexAddr P t (ev tm x) (ev tm i)
  | .index t x i => index P t (ev tm x) (ev tm i)
  | .extract t k => extract (ev tm t) k
  | .call c => match c.callee with
    | .builtin .len => match c.args.toList, c.argTypes.toList with
      | [x], t :: _ => lenOf P t (ev tm x)
      | _, _ => .bad
    | .builtin .cap => match c.args.toList, c.argTypes.toList with
      | [x], t :: _ => capOf P t (ev tm x)
      | _, _ => .bad
    | .builtin .min => minR (c.args.toList.map (ev tm))
    | .builtin .max => maxR (c.args.toList.map (ev tm))
    | _ => .bad
  | _ => .bad
def Fl.holds (K : R → Prop) : Fl → Prop
  | .bad => False
  | .ok r => K r
  | .ob p x => p ∧ x.holds K
  | .alt c x y => ifB c (x.holds K) (y.holds K)
end Sx
