import Derived.WalkKit
import Derived.Laws.StructEq
import Derived.ChangeKeysEq
import Derived.Orders
import Derived.Deep.MidRow
section
set_option linter.all false
namespace Sx
open Go

inductive Kd | i (k : IntKind) | b | s
  deriving DecidableEq
@[reducible] def Kd.T : Kd → Type
  | .i _ => Int
  | .b => Bool
  | .s => List Int
@[reducible] def Tup : List Kd → Type
  | [] => Unit
  | [k] => k.T
  | k :: k' :: ks => k.T × Tup (k' :: ks)
inductive L | b (x : Bool) | i (k : IntKind) (n : Int) | s (xs : List Int)
def Kd.leaf : (k : Kd) → k.T → L
  | .i k, n => .i k n
  | .b, x => .b x
  | .s, xs => .s xs
def Kd.zero : (k : Kd) → k.T
  | .i _ => (0 : Int)
  | .b => false
  | .s => ([] : List Int)
def zT : (ks : List Kd) → Tup ks
  | [] => ()
  | [k] => k.zero
  | k :: k' :: ks => (k.zero, zT (k' :: ks))
def leafs : (ks : List Kd) → Tup ks → List L
  | [], _ => []
  | [k], x => [k.leaf x]
  | k :: k' :: ks, x => k.leaf x.1 :: leafs (k' :: ks) x.2
def Kd.un : (k : Kd) → L → Option k.T
  | .i k, .i k' n => if k = k' then some n else none
  | .b, .b x => some x
  | .s, .s xs => some xs
  | _, _ => none
def unleafs : (ks : List Kd) → List L → Option (Tup ks)
  | [], [] => some ()
  | [k], [x] => k.un x
  | k :: k' :: ks, x :: xs => match k.un x, unleafs (k' :: ks) xs with
    | some a, some asq => some (a, asq)
    | _, _ => none
  | _, _ => none
inductive A
  | junk
  | l (x : L)
  | p (l o : Nat)
  | e (l z i o : Nat)
  | np
  | f (l n : Nat)
  | sb (l z a b : Nat)
  | ns
  | z
  | fn (f : FuncId) (cs : List (Nat × Nat))
  | o (v : Value)
inductive V | one (a : A) | agg (cs : List A)
inductive R | v (x : V) | tup (xs : List V)
@[reducible] def R.i (k : IntKind) (n : Int) : R := .v (.one (.l (.i k n)))
@[reducible] def R.b (x : Bool) : R := .v (.one (.l (.b x)))
@[reducible] def R.a (x : A) : R := .v (.one x)
@[reducible] def V.i (k : IntKind) (n : Int) : V := .one (.l (.i k n))
@[reducible] def V.b (x : Bool) : V := .one (.l (.b x))
def R.junk : R := .v (.one .junk)
def R.unit : R := .tup []
inductive Ob
  | cells (cs : List A)
  | row (own : Bool) (ks : List Kd) (xs : List (Tup ks))
  | abs (r : World → Nat → (Nat → Prop) → Prop)
  | gone
  | crow (z n : Nat) (cs : List A)
abbrev Hp := List (Nat × Nat × Ob)
def hget : Hp → Nat → Option Ob
  | [], _ => none
  | (l, _, o) :: h, k => match Nat.beq l k with
    | true => some o
    | false => hget h k
def hst : Hp → Nat → Nat
  | [], _ => 0
  | (l, s, _) :: h, k => match Nat.beq l k with
    | true => s
    | false => hst h k
def hset : Hp → Nat → Nat → Ob → Hp
  | [], k, s, o => [(k, s, o)]
  | (l, t, o') :: h, k, s, o => match Nat.beq l k with
    | true => (l, s, o) :: h
    | false => (l, t, o') :: hset h k s o
structure St where
  tmps : List R
  H : Hp
  nx : Nat
def ifB (c : Bool) (x y : Prop) : Prop := match c with
  | true => x
  | false => y

/-! ### constants, operands -/
def lo : IntKind → Int
  | .i8 => -128 | .i16 => -32768 | .i32 => -2147483648 | .i64 => -9223372036854775808 | _ => 0
def hi : IntKind → Int
  | .i8 => 127 | .i16 => 32767 | .i32 => 2147483647 | .i64 => 9223372036854775807
  | .u8 => 255 | .u16 => 65535 | .u32 => 4294967295 | .u64 => 18446744073709551615

def cstA : Value → A
  | .bool b => .l (.b b)
  | .int k n => match decide (lo k ≤ n), decide (n ≤ hi k) with
    | true, true => .l (.i k n)
    | _, _ => .junk
  | .string s => .l (.s (s.data.toList.map fun c => (c.toNat : Int)))
  | .pointer none => .np
  | .slice none 0 0 => .ns
  | .agg _ => .junk
  | .tuple _ => .junk
  | v => .o v
def cst : Value → R
  | .agg cs => match cs.toList.all fun c => c.oneCell' with
    | true => .v (.agg (cs.toList.map cstA))
    | false => .junk
  | .tuple _ => .junk
  | v => .v (.one (cstA v))
def ev (tm : List R) : Operand → R
  | .tmp t => tm.getD t .junk
  | .const v => cst v
  | .func f => .v (.one (.fn f []))
  | .global _ => .junk
def put (tm : List R) (d : Option Tmp) (r : R) : List R := match d with
  | some d => tm.set d r
  | none => tm

/-! ### types -/
def isAggT (P : Program) (t : TypeId) : Bool := match P.underlying t with
  | some (.struct _) => true
  | some (.array _ _) => true
  | _ => false
def elemT (P : Program) (t : TypeId) : Option TypeId := match P.underlying t with
  | some (.slice e) => some e
  | _ => none
def zkind : Value → Option Kd
  | .int k 0 => some (.i k)
  | .bool false => some .b
  | .string s => match s.size with
    | 0 => some .s
    | _ => none
  | _ => none
def mapO {α β : Type} (f : α → Option β) : List α → Option (List β)
  | [] => some []
  | a :: asq => match f a, mapO f asq with
    | some b, some bs => some (b :: bs)
    | _, _ => none
def zcells (P : Program) (t : TypeId) : Option (List Value) := match P.info? t with
  | some i => match i.zero with
    | some z => some z.cells.toList
    | none => none
  | none => none
def kindsT (P : Program) (t : TypeId) : Option (List Kd) := match zcells P t with
  | some cs => mapO zkind cs
  | none => none
def fieldT (P : Program) (s : TypeId) (f : Nat) : Option (Nat × TypeId) := match P.underlying s with
  | some (.struct fs) => match fs[f]? with
    | some fd => some (fd.offset, fd.type)
    | none => none
  | _ => none
def intT (P : Program) (t : TypeId) : Option IntKind := match P.underlying t with
  | some (.int k) => some k
  | _ => none

/-! ### arithmetic -/
inductive Fl
  | bad
  | ok (r : R)
  | ob (p : Prop) (x : Fl)
  | alt (c : Bool) (x y : Fl)
def into (k : IntKind) (z : Int) : Fl := match k with
  | .u8 => .ok (.i .u8 (z % 256))
  | .u16 => .ok (.i .u16 (z % 65536))
  | .u32 => .ok (.i .u32 (z % 4294967296))
  | .u64 => .ok (.i .u64 (z % 18446744073709551616))
  | k => .ob (lo k ≤ z ∧ z ≤ hi k) (.ok (.i k z))
def keep (k : IntKind) (z : Int) : Fl := .ok (.i k z)
def leB (a b : Int) : Bool := decide (a ≤ b)
def conv (k k' : IntKind) (z : Int) : Fl := match leB (lo k') (lo k), leB (hi k) (hi k') with
  | true, true => .ok (.i k' z)
  | _, _ => into k' z
def arith (op : BinOp) (k : IntKind) (x y : Int) : Fl := match op with
  | .add => into k (x + y)
  | .sub => into k (x - y)
  | .mul => into k (x * y)
  | .quo => .ob (0 ≤ x ∧ 0 < y) (.ok (.i k (x / y)))
  | .rem => .ob (0 ≤ x ∧ 0 < y) (.ok (.i k (x % y)))
  | .and => .ok (.i k (bits .and k x y))
  | .or => .ok (.i k (bits .or k x y))
  | .xor => .ok (.i k (bits .xor k x y))
  | .andNot => .ok (.i k (bits .andNot k x y))
  | .eql => .ok (.b (decide (x = y)))
  | .neq => .ok (.b (!decide (x = y)))
  | .lss => .ok (.b (decide (x < y)))
  | .leq => .ok (.b (decide (x ≤ y)))
  | .gtr => .ok (.b (decide (y < x)))
  | .geq => .ok (.b (decide (y ≤ x)))
  | _ => .bad
def shift (op : BinOp) (k : IntKind) (x y : Int) : Fl := match op with
  | .shl => .ob (0 ≤ y) (into k (x * 2 ^ (min y.toNat k.bits)))
  | .shr => .ob (0 ≤ y) (.ok (.i k (x / 2 ^ (min y.toNat k.bits))))
  | _ => .bad
def sameK (k k' : IntKind) : Bool := decide (k = k')
def leq : L → L → Option Bool
  | .i k x, .i k' y => match sameK k k' with
    | true => some (decide (x = y))
    | false => none
  | .b x, .b y => some (decide (x = y))
  | .s x, .s y => some (decide (x = y))
  | _, _ => none
def eqs : List A → List A → Option Bool
  | [], [] => some true
  | [.l x], [.l y] => leq x y
  | .l x :: xs, .l y :: ys => match leq x y, eqs xs ys with
    | some b, some c => some (b && c)
    | _, _ => none
  | _, _ => none
def plainF (f : TypeId → Option (List Nat)) (size : TypeId → Nat) : List Field → Nat → Option (List Nat)
  | [], _ => some []
  | fd :: fs, o => match f fd.type with
    | some ks => match Nat.beq fd.offset o && (Nat.beq (size fd.type) ks.length && !(fd.name == "_")), plainF f size fs (o + ks.length) with
      | true, some ks' => some (ks ++ ks')
      | _, _ => none
    | none => none
def plainG (P : Program) : Nat → TypeId → Option (List Nat)
  | 0, _ => none
  | n + 1, t => match P.underlying t with
    | some .bool => some [0]
    | some (.int _) => some [1]
    | some .string => some [2]
    | some (.struct fs) => match P.stoodInHeld t with
      | false => plainF (plainG P n) P.cellsOf fs.toList 0
      | true => none
    | some (.array m e) => match plainG P n e, (P.info? e).isSome with
      | some ks, true => match Nat.beq (P.cellsOf e) ks.length with
        | true => some (List.replicate m ks).flatten
        | false => none
      | _, _ => none
    | _ => none
def tagA : A → Nat
  | .l (.b _) => 0
  | .l (.i _ _) => 1
  | .l (.s _) => 2
  | _ => 3
def tagsEq : List Nat → List A → Bool
  | [], [] => true
  | k :: ks, a :: asq => Nat.beq k (tagA a) && tagsEq ks asq
  | _, _ => false
def plainB (P : Program) (t : TypeId) (asq : List A) : Bool := match P.underlying t, P.stoodInHeld t, P.eqGuardType P.depth t with
  | some (.struct fs), false, false => match plainF (plainG P 8) P.cellsOf fs.toList 0 with
    | some ks => tagsEq ks asq
    | none => false
  | some (.array _ _), _, false => match plainG P 8 t with
    | some ks => tagsEq ks asq
    | none => false
  | _, _, _ => false
def isBoolT (P : Program) (t : TypeId) : Bool := match P.underlying t with
  | some .bool => true
  | _ => false
def isPtrT (P : Program) (t : TypeId) : Bool := match P.underlying t with
  | some (.pointer _) => true
  | _ => false
def onlyIf (c : Bool) (x : Fl) : Fl := match c with
  | true => x
  | false => .bad
def binop (P : Program) (op : BinOp) (t : TypeId) (x y : R) : Fl := match op, x, y with
  | .shl, .v (.one (.l (.i k a))), .v (.one (.l (.i _ b))) => shift .shl k a b
  | .shr, .v (.one (.l (.i k a))), .v (.one (.l (.i _ b))) => shift .shr k a b
  | op, .v (.one (.l (.i k a))), .v (.one (.l (.i k' b))) => match sameK k k' with
    | true => arith op k a b
    | false => .bad
  | .eql, .v (.one (.l (.b a))), .v (.one (.l (.b b))) => onlyIf (isBoolT P t) (.ok (.b (decide (a = b))))
  | .neq, .v (.one (.l (.b a))), .v (.one (.l (.b b))) => onlyIf (isBoolT P t) (.ok (.b (!decide (a = b))))
  | .eql, .v (.one (.l (.s a))), .v (.one (.l (.s b))) => .ok (.b (decide (a = b)))
  | .neq, .v (.one (.l (.s a))), .v (.one (.l (.s b))) => .ok (.b (!decide (a = b)))
  | .add, .v (.one (.l (.s a))), .v (.one (.l (.s b))) => .ob (a.length + b.length ≤ 9223372036854775807) (.ok (.v (.one (.l (.s (a ++ b))))))
  | .eql, .v (.one .np), .v (.one .np) => onlyIf (isPtrT P t) (.ok (.b true))
  | .neq, .v (.one .np), .v (.one .np) => onlyIf (isPtrT P t) (.ok (.b false))
  | .eql, .v (.one (.p _ _)), .v (.one .np) => onlyIf (isPtrT P t) (.ok (.b false))
  | .neq, .v (.one (.p _ _)), .v (.one .np) => onlyIf (isPtrT P t) (.ok (.b true))
  | .eql, .v (.one (.e _ _ _ _)), .v (.one .np) => onlyIf (isPtrT P t) (.ok (.b false))
  | .neq, .v (.one (.e _ _ _ _)), .v (.one .np) => onlyIf (isPtrT P t) (.ok (.b true))
  | .eql, .v (.agg xs), .v (.agg ys) => match plainB P t xs, eqs xs ys with
    | true, some b => .ok (.b b)
    | _, _ => .bad
  | .neq, .v (.agg xs), .v (.agg ys) => match plainB P t xs, eqs xs ys with
    | true, some b => .ok (.b !b)
    | _, _ => .bad
  | _, _, _ => .bad
def unop (op : UnOp) (x : R) : Fl := match op, x with
  | .not, .v (.one (.l (.b a))) => .ok (.b !a)
  | .neg, .v (.one (.l (.i k a))) => into k (0 - a)
  | .xor, .v (.one (.l (.i k a))) => .ok (.i k (bits .xor k (if k.signed then -1 else k.max) a))
  | _, _ => .bad
def content (H : Hp) : A → Option (Bool × (ks : List Kd) × List (Tup ks))
  | .f l _ => match hget H l with
    | some (.row own ks xs) => some (own, ⟨ks, xs⟩)
    | _ => none
  | .sb l z a b => match hget H l with
    | some (.row own ks xs) => match Nat.beq z ks.length with
      | true => some (own, ⟨ks, (xs.take b).drop a⟩)
      | false => none
    | _ => none
  | _ => none
def bytesOf (H : Hp) : A → Option (List Int)
  | .ns => some []
  | .z => some []
  | a => match content H a with
    | some (_, ⟨[.i .u8], xs⟩) => some xs
    | _ => none
def convert (P : Program) (H : Hp) (src dst : TypeId) (x : R) : Fl := match P.underlying src, P.underlying dst, x with
  | some (.int _), some (.int k'), .v (.one (.l (.i k n))) => conv k k' n
  | some .string, some .string, .v (.one (.l (.s xs))) => .ok (.v (.one (.l (.s xs))))
  | some (.slice e), some .string, .v (.one a) => match P.underlying e, bytesOf H a with
    | some (.int .u8), some xs => .ok (.v (.one (.l (.s xs))))
    | _, _ => .bad
  | _, _, _ => .bad
def inB (o n : Nat) : Bool := Nat.ble o n
def okT (P : Program) (t : TypeId) : Bool := inB 1 (P.cellsOf t) && (P.underlying t).isSome
def among (i : Int) (f : Nat → Fl) : Nat → Nat → Fl
  | 0, _ => .bad
  | n + 1, j => .alt (decide (i = (j : Int))) (f j) (among i f n (j + 1))
def indexAddr (P : Program) (t : TypeId) (x i : R) : Fl := match P.underlying t, x, i with
  | some (.slice e), .v (.one (.f l n)), .v (.one (.l (.i _ i))) => onlyIf (inB 1 (P.cellsOf e)) <| .ob (0 ≤ i ∧ i < (n : Int)) (.ok (.a (.e l (P.cellsOf e) i.toNat 0)))
  | some (.slice e), .v (.one (.sb l z a b)), .v (.one (.l (.i _ i))) => onlyIf (inB 1 (P.cellsOf e) && Nat.beq z (P.cellsOf e)) <| .ob (0 ≤ i ∧ i < ((b - a : Nat) : Int)) (.ok (.a (.e l (P.cellsOf e) (a + i.toNat) 0)))
  | some (.array n e), .v (.one (.p l o)), .v (.one (.l (.i _ i))) => onlyIf (inB 1 (P.cellsOf e)) <| among i (fun j => .ok (.a (.p l (o + j * P.cellsOf e)))) n 0
  | some (.array n e), .v (.one (.e l z j o)), .v (.one (.l (.i _ i))) => onlyIf (inB 1 (P.cellsOf e)) <| among i (fun m => .ok (.a (.e l z j (o + m * P.cellsOf e)))) n 0
  | _, _, _ => .bad
def partV (P : Program) (t : TypeId) (cs : List A) (o : Nat) : V := match isAggT P t with
  | true => .agg ((cs.drop o).take (P.cellsOf t))
  | false => .one (cs.getD o .junk)
def index (P : Program) (t : TypeId) (x i : R) : Fl := match P.underlying t, x, i with
  | some (.array n e), .v (.agg cs), .v (.one (.l (.i _ i))) => onlyIf (okT P e && inB (n * P.cellsOf e) cs.length) <| among i (fun j => .ok (.v (partV P e cs (j * P.cellsOf e)))) n 0
  | some .string, .v (.one (.l (.s xs))), .v (.one (.l (.i _ i))) => .ob (0 ≤ i ∧ i < (xs.length : Int)) (.ok (.i .u8 (xs.getD i.toNat 0)))
  | _, _, _ => .bad
def field (P : Program) (t : TypeId) (x : R) (f : Nat) : Fl := match fieldT P t f, x with
  | some (o, u), .v (.agg cs) => onlyIf (okT P u && inB (o + P.cellsOf u) cs.length) <| .ok (.v (partV P u cs o))
  | _, _ => .bad
def fieldAddr (P : Program) (t : TypeId) (x : R) (f : Nat) : Fl := match fieldT P t f, x with
  | some (o, u), .v (.one (.p l o')) => match P.cellsOf u with
    | 0 => .bad
    | _ + 1 => .ok (.a (.p l (o' + o)))
  | some (o, u), .v (.one (.e l z i o')) => match P.cellsOf u with
    | 0 => .bad
    | _ + 1 => .ok (.a (.e l z i (o' + o)))
  | _, _ => .bad
def cellsAt (ks : List Kd) (xs : List (Tup ks)) (i : Nat) : List A := (leafs ks (xs.getD i (zT ks))).map .l
def load (P : Program) (H : Hp) (t : TypeId) (x : R) : Fl := match x with
  | .v (.one (.p l o)) => match hget H l with
    | some (.cells cs) => onlyIf (okT P t && inB (o + P.cellsOf t) cs.length) <| .ok (.v (partV P t cs o))
    | _ => .bad
  | .v (.one (.e l z i o)) => match hget H l with
    | some (.row _ ks xs) => onlyIf (okT P t && (Nat.beq z ks.length && inB (o + P.cellsOf t) ks.length)) <| .ok (.v (partV P t (cellsAt ks xs i) o))
    | some (.crow z' _ cs) => onlyIf (okT P t && (Nat.beq z z' && inB (o + P.cellsOf t) z)) <| .ok (.v (partV P t cs (i * z + o)))
    | _ => .bad
  | _ => .bad
def slice (P : Program) (t : TypeId) (x : R) (low high : Option R) : Fl := match elemT P t with
  | none => .bad
  | some e => onlyIf (inB 1 (P.cellsOf e)) <| match x, low, high with
    | .v (.one (.f l n)), some (.v (.one (.l (.i _ i)))), none => .ob (0 ≤ i ∧ i ≤ (n : Int)) (.ok (.a (.sb l (P.cellsOf e) i.toNat n)))
    | .v (.one (.f l n)), none, some (.v (.one (.l (.i _ j)))) => .ob (0 ≤ j ∧ j ≤ (n : Int)) (.ok (.a (.sb l (P.cellsOf e) 0 j.toNat)))
    | .v (.one (.f l n)), some (.v (.one (.l (.i _ i)))), some (.v (.one (.l (.i _ j)))) => .ob (0 ≤ i ∧ i ≤ j ∧ j ≤ (n : Int)) (.ok (.a (.sb l (P.cellsOf e) i.toNat j.toNat)))
    | .v (.one (.sb l z a b)), some (.v (.one (.l (.i _ i)))), none => onlyIf (Nat.beq z (P.cellsOf e)) <| .ob (0 ≤ i ∧ i ≤ ((b - a : Nat) : Int)) (.ok (.a (.sb l z (a + i.toNat) b)))
    | .v (.one (.sb l z a b)), none, some (.v (.one (.l (.i _ j)))) => onlyIf (Nat.beq z (P.cellsOf e)) <| .ob (0 ≤ j ∧ j ≤ ((b - a : Nat) : Int)) (.ok (.a (.sb l z a (a + j.toNat))))
    | .v (.one (.sb l z a b)), some (.v (.one (.l (.i _ i)))), some (.v (.one (.l (.i _ j)))) => onlyIf (Nat.beq z (P.cellsOf e)) <| .ob (0 ≤ i ∧ i ≤ j ∧ j ≤ ((b - a : Nat) : Int)) (.ok (.a (.sb l z (a + i.toNat) (a + j.toNat))))
    | .v (.one .ns), some (.v (.one (.l (.i _ i)))), none => .ob (i = 0) (.ok (.a .ns))
    | .v (.one .ns), none, some (.v (.one (.l (.i _ j)))) => .ob (j = 0) (.ok (.a .ns))
    | .v (.one .ns), some (.v (.one (.l (.i _ i)))), some (.v (.one (.l (.i _ j)))) => .ob (i = 0 ∧ j = 0) (.ok (.a .ns))
    | _, _, _ => .bad
def slice3 (P : Program) (t : TypeId) (x h m : R) : Fl := match elemT P t with
  | none => .bad
  | some e => onlyIf (inB 1 (P.cellsOf e)) <| match x, h, m with
    | .v (.one (.f _ _)), .v (.one (.l (.i _ i))), .v (.one (.l (.i _ j))) => .ob (i = 0 ∧ j = 0) (.ok (.a .z))
    | .v (.one (.sb _ _ _ _)), .v (.one (.l (.i _ i))), .v (.one (.l (.i _ j))) => .ob (i = 0 ∧ j = 0) (.ok (.a .z))
    | .v (.one .ns), .v (.one (.l (.i _ i))), .v (.one (.l (.i _ j))) => .ob (i = 0 ∧ j = 0) (.ok (.a .ns))
    | .v (.one .z), .v (.one (.l (.i _ i))), .v (.one (.l (.i _ j))) => .ob (i = 0 ∧ j = 0) (.ok (.a .z))
    | _, _, _ => .bad
def extract (x : R) (k : Nat) : Fl := match x with
  | .tup vs => match vs[k]? with
    | some v => .ok (.v v)
    | none => .bad
  | _ => .bad
def pick (c x y : R) : Fl := match c with
  | .v (.one (.l (.b c))) => .alt c (.ok x) (.ok y)
  | _ => .bad
def lenOf (P : Program) (t : TypeId) (x : R) : Fl := match P.underlying t, x with
  | some (.slice _), .v (.one (.f _ n)) => .ok (.i .i64 (n : Int))
  | some (.slice _), .v (.one (.sb _ _ a b)) => .ok (.i .i64 ((b - a : Nat) : Int))
  | some (.slice _), .v (.one .ns) => .ok (.i .i64 0)
  | some (.slice _), .v (.one .z) => .ok (.i .i64 0)
  | some .string, .v (.one (.l (.s xs))) => .ob ((xs.length : Int) ≤ 9223372036854775807) (.ok (.i .i64 (xs.length : Int)))
  | _, _ => .bad
def capOf (P : Program) (t : TypeId) (x : R) : Fl := match P.underlying t, x with
  | some (.slice _), .v (.one .ns) => .ok (.i .i64 0)
  | _, _ => .bad
def maxR : List R → Fl
  | [.v (.one (.l (.i k x))), .v (.one (.l (.i k' y)))] => match sameK k k' with
    | true => .ok (.i k (max x y))
    | false => .bad
  | _ => .bad
def minR : List R → Fl
  | [.v (.one (.l (.i k x))), .v (.one (.l (.i k' y)))] => match sameK k k' with
    | true => .ok (.i k (min x y))
    | false => .bad
  | [.v (.one (.l (.i k x))), .v (.one (.l (.i k' y))), .v (.one (.l (.i k'' z)))] => match sameK k k', sameK k k'' with
    | true, true => .ok (.i k (min (min x y) z))
    | _, _ => .bad
  | _ => .bad
def nilCheck (x : R) : Fl := match x with
  | .v (.one (.p l o)) => .ok (.a (.p l o))
  | .v (.one (.e l z i o)) => .ok (.a (.e l z i o))
  | .v (.one (.fn f cs)) => .ok (.a (.fn f cs))
  | _ => .bad
def asCells : V → Option (List A)
  | .one .junk => none
  | .one a => some [a]
  | .agg cs => some cs
def setAt : List A → Nat → List A → List A
  | cs, _, [] => cs
  | cs, o, a :: asq => setAt (cs.set o a) (o + 1) asq
def fillA (place : Nat → Option (Nat × Nat)) : List A → List (Nat × R) → Option (List A)
  | cs, [] => some cs
  | cs, (i, r) :: rest => match place i, r with
    | some (o, z), .v v => match asCells v with
      | some vs => match Nat.beq vs.length z, inB (o + z) cs.length with
        | true, true => fillA place (setAt cs o vs) rest
        | _, _ => none
      | none => none
    | _, _ => none
def zatoms (P : Program) (t : TypeId) : Option (List A) := match zcells P t with
  | some z => match z.all fun c => c.oneCell' with
    | true => some (z.map cstA)
    | false => none
  | none => none
def build (P : Program) (t : TypeId) (parts : List (Nat × R)) : Fl := match zatoms P t, P.underlying t with
  | some z, some (.struct fs) => onlyIf (fs.toList.all fun f => (P.info? f.type).isSome) <| match fillA (fun i => match fs[i]? with | some f => some (f.offset, P.cellsOf f.type) | none => none) z parts with
    | some cs => .ok (.v (.agg cs))
    | none => .bad
  | some z, some (.array _ e) => onlyIf (P.info? e).isSome <| match fillA (fun i => some (i * P.cellsOf e, P.cellsOf e)) z parts with
    | some cs => .ok (.v (.agg cs))
    | none => .bad
  | _, _ => .bad
def ptrsOf : List R → Option (List (Nat × Nat))
  | [] => some []
  | .v (.one (.p l o)) :: rs => match ptrsOf rs with
    | some ps => some ((l, o) :: ps)
    | none => none
  | _ => none
def fl (P : Program) (tm : List R) (H : Hp) : Op → Fl
  | .move x => .ok (ev tm x)
  | .assign x => .ok (ev tm x)
  | .pick c a b => pick (ev tm c) (ev tm a) (ev tm b)
  | .build t parts => build P t (parts.toList.map fun q => (q.1, ev tm q.2))
  | .load t a => load P H t (ev tm a)
  | .nilCheck x => nilCheck (ev tm x)
  | .binOp op t x y _ => binop P op t (ev tm x) (ev tm y)
  | .unOp op _ x => unop op (ev tm x)
  | .convert s d x => convert P H s d (ev tm x)
  | .makeFunc (.func f) first captured => match first.size, ptrsOf (captured.toList.map (ev tm)) with
    | 0, some ps => .ok (.a (.fn f ps))
    | _, _ => .bad
  | .slice t x l h none => slice P t (ev tm x) (l.map (ev tm)) (h.map (ev tm))
  | .slice t x none (some h) (some m) => slice3 P t (ev tm x) (ev tm h) (ev tm m)
  | .fieldAddr t x f => fieldAddr P t (ev tm x) f
  | .field t x f => field P t (ev tm x) f
  | .indexAddr t x i => indexAddr P t (ev tm x) (ev tm i)
  | .index t x i => index P t (ev tm x) (ev tm i)
  | .extract t k => extract (ev tm t) k
  | .call c => match c.callee with
    | .builtin .len => match c.args.toList, c.argTypes.toList with
      | [x], t :: _ => lenOf P t (ev tm x)
      | _, _ => .bad
    | .builtin .cap => match c.args.toList, c.argTypes.toList with
      | [x], t :: _ => capOf P t (ev tm x)
      | _, _ => .bad
    | .builtin .min => minR (c.args.toList.map (ev tm))
    | .builtin .max => maxR (c.args.toList.map (ev tm))
    | _ => .bad
  | _ => .bad
def Fl.holds (K : R → Prop) : Fl → Prop
  | .bad => False
  | .ok r => K r
  | .ob p x => p ∧ x.holds K
  | .alt c x y => ifB c (x.holds K) (y.holds K)
end Sx

set_option linter.all false
namespace Sx
open Go

/-! ### what a formal heap stands for -/
abbrev Rn := List (Nat × A)
def rget : Rn → Nat → Option A
  | [], _ => none
  | (l, a) :: r, k => match Nat.beq l k with
    | true => some a
    | false => rget r k
def mtL (x y : L) (K : Prop) : Prop := match x, y with
  | .i k n, .i k' n' => match sameK k k' with
    | true => n' = n ∧ K
    | false => False
  | .b x, .b y => y = x ∧ K
  | .s x, .s y => y = x ∧ K
  | _, _ => False
def mtP (r : Rn) (l o l' o' : Nat) (K : Rn → Prop) : Prop := match Nat.beq o o', rget r l with
  | true, none => K ((l, .p l' 0) :: r)
  | true, some (.p m _) => match Nat.beq m l' with
    | true => K r
    | false => False
  | _, _ => False
def mtPs (r : Rn) : List (Nat × Nat) → List (Nat × Nat) → (Rn → Prop) → Prop
  | [], [], K => K r
  | a :: asq, b :: bs, K => mtP r a.1 a.2 b.1 b.2 fun r => mtPs r asq bs K
  | _, _, _ => False
def mtZ (a : A) (K : Prop) : Prop := match a with
  | .z => K
  | .ns => K
  | _ => False
def mtA (r : Rn) (a a' : A) (K : Rn → Prop) : Prop := match a, a' with
  | .junk, _ => K r
  | .l x, .l y => mtL x y (K r)
  | .p l o, .p l' o' => mtP r l o l' o' K
  | .f l n, .f l' n' => match rget r l with
    | none => n' = n ∧ K ((l, .f l' n') :: r)
    | some (.f m _) => match Nat.beq m l' with
      | true => n' = n ∧ K r
      | false => False
    | _ => False
  | .f l n, .sb l' z a b => match rget r l with
    | none => b - a = n ∧ K ((l, .sb l' z a b) :: r)
    | _ => False
  | .f l n, .ns => match rget r l with
    | none => 0 = n ∧ K ((l, .ns) :: r)
    | some .ns => 0 = n ∧ K r
    | _ => False
  | .f l n, .z => match rget r l with
    | none => 0 = n ∧ K ((l, .z) :: r)
    | _ => False
  | .sb l z a b, .f l' n => match rget r l, inB 1 z with
    | some (.f m _), true => match Nat.beq m l' with
      | true => 0 = a ∧ n = b ∧ K r
      | false => False
    | _, _ => False
  | .sb l z a b, .sb l' z' a' b' => match rget r l, Nat.beq z z' with
    | some (.f m _), true => match Nat.beq m l' with
      | true => a' = a ∧ b' = b ∧ K r
      | false => False
    | _, _ => False
  | .np, .np => K r
  | .ns, .ns => K r
  | .z, a => mtZ a (K r)
  | .fn f cs, .fn f' cs' => match Nat.beq f f' with
    | true => mtPs r cs cs' K
    | false => False
  | .o v, .o v' => v' = v ∧ K r
  | _, _ => False
def mtAs (r : Rn) : List A → List A → (Rn → Prop) → Prop
  | [], [], K => K r
  | a :: asq, b :: bs, K => mtA r a b fun r => mtAs r asq bs K
  | _, _, _ => False
def mtV (r : Rn) (v v' : V) (K : Rn → Prop) : Prop := match v, v' with
  | .one a, .one b => mtA r a b K
  | .agg asq, .agg bs => mtAs r asq bs K
  | _, _ => False
def mtVs (r : Rn) : List V → List V → (Rn → Prop) → Prop
  | [], [], K => K r
  | a :: asq, b :: bs, K => mtV r a b fun r => mtVs r asq bs K
  | _, _, _ => False
def mtR (r : Rn) (v v' : R) (K : Rn → Prop) : Prop := match v, v' with
  | .v a, .v b => mtV r a b K
  | .tup asq, .tup bs => mtVs r asq bs K
  | _, _ => False
def mtRs (r : Rn) : List R → List R → (Rn → Prop) → Prop
  | [], [], K => K r
  | a :: asq, b :: bs, K => mtR r a b fun r => mtRs r asq bs K
  | _, _, _ => False
def castRow (ks ks' : List Kd) (xs : List (Tup ks')) : Option (List (Tup ks)) := if h : ks' = ks then some (h ▸ xs) else none
def mtHp (r : Rn) (H : Hp) : List (Nat × Ob) → (Rn → Prop) → Prop
  | [], K => K r
  | (l, o) :: fs, K => match o, rget r l with
    | .cells asq, some (.p l' _) => match hget H l' with
      | some (.cells bs) => mtAs r asq bs fun r => mtHp r H fs K
      | _ => False
    | .abs a, some (.p l' _) => match hget H l' with
      | some (.abs b) => b = a ∧ mtHp r H fs K
      | _ => False
    | .row own ks xs, some (.f l' _) => match hget H l' with
      | some (.row own' ks' xs') => match (!own || own'), castRow ks ks' xs' with
        | true, some ys => ys = xs ∧ mtHp r H fs K
        | _, _ => False
      | _ => False
    | .row own ks xs, some (.sb l' z a b) => match own with
      | true => match hget H l' with
        | some (.row true ks' xs') => match Nat.beq z ks'.length && Nat.beq a 0, castRow ks ks' (xs'.take b) with
          | true, some ys => ys = xs ∧ mtHp r H fs K
          | _, _ => False
        | _ => False
      | false => match hget H l' with
        | some (.row _ ks' xs') => match Nat.beq z ks'.length, castRow ks ks' ((xs'.take b).drop a) with
          | true, some ys => ys = xs ∧ mtHp r H fs K
          | _, _ => False
        | _ => False
    | .row false ks xs, some .z => match ks.length with
      | 0 => False
      | _ + 1 => [] = xs ∧ mtHp r H fs K
    | .row _ ks xs, some .ns => match ks.length with
      | 0 => False
      | _ + 1 => [] = xs ∧ mtHp r H fs K
    | .crow z n asq, some (.f l' _) => match hget H l' with
      | some (.crow z' n' bs) => match Nat.beq z z' && Nat.beq n n' with
        | true => mtAs r asq bs fun r => mtHp r H fs K
        | false => False
      | _ => False
    | .gone, _ => mtHp r H fs K
    | _, _ => False
def tgt : A → Option Nat
  | .p l _ => some l
  | .f l _ => some l
  | .sb l _ _ _ => some l
  | _ => none
def ownOb : Ob → Bool
  | .cells _ => true
  | .row own _ _ => own
  | .abs _ => true
  | .gone => false
  | .crow _ _ _ => true
def goneB : Ob → Bool
  | .gone => true
  | _ => false
def apartR (r : Rn) : List (Nat × Ob) → Bool
  | [] => true
  | (l, o) :: fs => (match (rget r l).bind tgt with
      | some t => fs.all fun q => match (rget r q.1).bind tgt with
        | some t' => !Nat.beq t t' || (goneB o || (goneB q.2 || (!ownOb o && !ownOb q.2)))
        | none => true
      | none => true) && apartR r fs
structure Outc (X : Type) where
  Y : Type
  post : X → Y → Prop
  res : X → Y → R
  out : X → Y → List (Nat × Ob)
  nn : Nat
structure Con where
  X : Type
  args : X → List V
  heap : X → List Ob
  pre : X → Prop
  outs : List (Outc X)
def enum {α : Type} (n : Nat) : List α → List (Nat × α)
  | [] => []
  | a :: asq => (n, a) :: enum (n + 1) asq
def renA (r : Rn) (nf nx : Nat) : A → A
  | .p l o => match Nat.blt l nf with
    | true => match rget r l with
      | some (.p l' _) => .p l' o
      | _ => .junk
    | false => .p (nx + (l - nf)) o
  | .f l n => match Nat.blt l nf with
    | true => match rget r l with
      | some (.f l' _) => .f l' n
      | some (.sb l' z a b) => .sb l' z a b
      | some .ns => .ns
      | some .z => .z
      | _ => .junk
    | false => .f (nx + (l - nf)) n
  | .sb l z a b => match Nat.blt l nf with
    | true => match rget r l with
      | some (.f l' _) => .sb l' z a b
      | _ => .junk
    | false => .sb (nx + (l - nf)) z a b
  | .e l z i o => match Nat.blt l nf with
    | true => match rget r l with
      | some (.f l' _) => .e l' z i o
      | _ => .junk
    | false => .e (nx + (l - nf)) z i o
  | .fn f [] => .fn f []
  | .fn _ _ => .junk
  | a => a
def renV (r : Rn) (nf nx : Nat) : V → V
  | .one a => .one (renA r nf nx a)
  | .agg cs => .agg (cs.map (renA r nf nx))
def renR (r : Rn) (nf nx : Nat) : R → R
  | .v v => .v (renV r nf nx v)
  | .tup vs => .tup (vs.map (renV r nf nx))
def renOb (r : Rn) (nf nx : Nat) : Ob → Ob
  | .cells cs => .cells (cs.map (renA r nf nx))
  | .crow z n cs => .crow z n (cs.map (renA r nf nx))
  | o => o
def outH (r : Rn) (nf nx : Nat) (H : Hp) : List (Nat × Ob) → Hp
  | [] => H
  | (l, o) :: fs => match Nat.blt l nf with
    | true => match (rget r l).bind tgt with
      | some l' => hset (outH r nf nx H fs) l' nx (renOb r nf nx o)
      | none => outH r nf nx H fs
    | false => (nx + (l - nf), nx, renOb r nf nx o) :: outH r nf nx H fs
def cutOK (r : Rn) (out : List (Nat × Ob)) : Bool := out.all fun q => match q.2 with
  | .gone => true
  | _ => match rget r q.1 with
    | some (.sb _ _ _ _) => false
    | _ => true
def allOuts {X : Type} (x : X) (r : Rn) (nf nx : Nat) (H : Hp) (K : R → Hp → Nat → Prop) : List (Outc X) → Prop
  | [] => True
  | [o] => ∀ y : o.Y, o.post x y → ifB (cutOK r (o.out x y)) (K (renR r nf nx (o.res x y)) (outH r nf nx H (o.out x y)) (nx + o.nn + 1)) False
  | o :: os => (∀ y : o.Y, o.post x y → ifB (cutOK r (o.out x y)) (K (renR r nf nx (o.res x y)) (outH r nf nx H (o.out x y)) (nx + o.nn + 1)) False) ∧ allOuts x r nf nx H K os
def callS (S : Con) (args : List V) (H : Hp) (nx : Nat) (K : R → Hp → Nat → Prop) : Prop :=
  ∃ x : S.X, mtVs [] (S.args x) args fun r => mtHp r H (enum 0 (S.heap x)) fun r =>
    ifB (apartR r (enum 0 (S.heap x)) && r.all fun q => Nat.blt q.1 (S.heap x).length) (S.pre x ∧ allOuts x r (S.heap x).length nx H K S.outs) False

/-! ### operations that turn something -/
def rowT (P : Program) (e : TypeId) : Option (List Kd) := match kindsT P e with
  | some ks => match Nat.beq ks.length (P.cellsOf e) && inB 1 ks.length with
    | true => some ks
    | false => none
  | none => none
def vals : List R → Option (List V)
  | [] => some []
  | .v v :: rs => match vals rs with
    | some vs => some (v :: vs)
    | none => none
  | _ => none
def scal : A → Option L
  | .l x => some x
  | _ => none
def group (ks : List Kd) : Nat → List A → Option (List (Tup ks))
  | 0, [] => some []
  | n + 1, cs => match mapO scal (cs.take ks.length) with
    | some ls => match unleafs ks ls, group ks n (cs.drop ks.length) with
      | some x, some xs => some (x :: xs)
      | _, _ => none
    | none => none
  | _, _ => none
def store (P : Program) (H : Hp) (nx : Nat) (t : TypeId) (x : R) (v : R) (K : Hp → Prop) : Prop := match v with
  | .v v => match asCells v with
    | none => False
    | some vs => match Nat.beq vs.length (P.cellsOf t) && inB 1 vs.length with
      | false => False
      | true => match x with
        | .v (.one (.p l o)) => match hget H l with
          | some (.cells cs) => match inB (o + vs.length) cs.length with
            | true => K (hset H l nx (.cells (setAt cs o vs)))
            | false => False
          | _ => False
        | .v (.one (.e l z i o)) => match hget H l with
          | some (.row true ks xs) => match Nat.beq z ks.length, inB (o + vs.length) ks.length, mapO scal (setAt (cellsAt ks xs i) o vs) with
            | true, true, some ls => match unleafs ks ls with
              | some y => K (hset H l nx (.row true ks (xs.set i y)))
              | none => False
            | _, _, _ => False
          | some (.crow z' n cs) => match Nat.beq z z' && inB (o + vs.length) z with
            | true => K (hset H l nx (.crow z' n (setAt cs (i * z + o) vs)))
            | false => False
          | _ => False
        | _ => False
  | _ => False
def source (ks : List Kd) (H : Hp) : R → Option (List (Tup ks))
  | .v (.one .ns) => some []
  | .v (.one .z) => some []
  | .v (.one a) => match content H a with
    | some (_, ⟨ks', xs⟩) => castRow ks ks' xs
    | none => none
  | _ => none
def csource (H : Hp) : R → Option (Nat × Nat × List A)
  | .v (.one (.f l _)) => match hget H l with
    | some (.crow z n cs) => some (z, n, cs)
    | _ => none
  | _ => none
def appendC (P : Program) (H : Hp) (nx : Nat) (e : TypeId) (s x : R) (K : R → Hp → Prop) : Prop := match zatoms P e, csource H x with
  | some za, some (z, m, ys) => match Nat.beq z (P.cellsOf e) && (Nat.beq za.length z && inB 1 m) with
    | false => False
    | true => match s with
      | .v (.one .ns) => (m * P.bytesOf e ≤ 140737488355328 ∧ m ≤ 140737488355328) ∧ K (.a (.f nx m)) ((nx, nx, .crow z m ys) :: H)
      | .v (.one (.f l _)) => match hget H l with
        | some (.crow z' n xs) => match Nat.beq z z' with
          | true => ((n + m) * P.bytesOf e ≤ 140737488355328 ∧ n + m ≤ 140737488355328) ∧ K (.a (.f nx (n + m))) ((nx, nx, .crow z (n + m) (xs ++ ys)) :: hset H l nx .gone)
          | false => False
        | _ => False
      | _ => False
  | _, _ => False
def append (P : Program) (H : Hp) (nx : Nat) (t : TypeId) (s x : R) (K : R → Hp → Prop) : Prop := match elemT P t with
  | none => False
  | some e => match rowT P e with
    | none => appendC P H nx e s x K
    | some ks => match source ks H x with
      | none => False
      | some ys => match s with
        | .v (.one .ns) => (ys.length * P.bytesOf e ≤ 140737488355328 ∧ ys.length ≤ 140737488355328) ∧ K (.a (.f nx ys.length)) ((nx, nx, .row true ks ys) :: H)
        | .v (.one .z) => ifB ys.isEmpty (K (.a .z) H) ((ys.length * P.bytesOf e ≤ 140737488355328 ∧ ys.length ≤ 140737488355328) ∧ K (.a (.f nx ys.length)) ((nx, nx, .row true ks ys) :: H))
        | .v (.one (.f l n)) => match hget H l with
          | some (.row true ks' xs') => match castRow ks ks' xs' with
            | some xs => ((n + ys.length) * P.bytesOf e ≤ 140737488355328 ∧ n + ys.length ≤ 140737488355328) ∧ K (.a (.f nx (n + ys.length))) ((nx, nx, .row true ks (xs ++ ys)) :: hset H l nx .gone)
            | none => False
          | _ => False
        | .v (.one (.sb l z a b)) => match hget H l, Nat.beq z ks.length && Nat.beq a 0 with
          | some (.row true ks' xs'), true => match castRow ks ks' xs' with
            | some xs => ((b + ys.length) * P.bytesOf e ≤ 140737488355328 ∧ b + ys.length ≤ 140737488355328) ∧ K (.a (.f nx (b + ys.length))) ((nx, nx, .row true ks (xs.take b ++ ys)) :: hset H l nx .gone)
            | none => False
          | _, _ => False
        | _ => False
def appendZ (P : Program) (H : Hp) (nx : Nat) (t t' : TypeId) (s x : R) (K : R → Hp → Prop) : Prop := match elemT P t, intT P t', s, x with
  | some e, some .i64, .v (.one .ns), .v (.one (.l (.i .i64 n))) => match rowT P e with
    | none => False
    | some ks => (0 < n ∧ n * P.bytesOf e ≤ 140737488355328 ∧ n ≤ 140737488355328) ∧ K (.a (.f nx n.toNat)) ((nx, nx, .row true ks (List.replicate n.toNat (zT ks))) :: H)
  | _, _, _, _ => False
def mid {α : Type} (xs : List α) (a : Nat) (ys : List α) : List α := xs.take a ++ (ys ++ xs.drop (a + ys.length))
def copy (P : Program) (H : Hp) (nx : Nat) (t : TypeId) (d x : R) (K : R → Hp → Prop) : Prop := match elemT P t with
  | none => False
  | some e => match rowT P e with
    | none => False
    | some ks => match source ks H x with
      | none => False
      | some ys => match d with
        | .v (.one (.f l n)) => match hget H l with
          | some (.row true ks' xs') => match castRow ks ks' xs' with
            | some xs => K (.i .i64 ((min ys.length n : Nat) : Int)) (hset H l nx (.row true ks (mid xs 0 (ys.take (min ys.length n)))))
            | none => False
          | _ => False
        | .v (.one (.sb l z a b)) => match hget H l, Nat.beq z ks.length with
          | some (.row true ks' xs'), true => match castRow ks ks' xs' with
            | some xs => K (.i .i64 ((min ys.length (b - a) : Nat) : Int)) (hset H l nx (.row true ks (mid xs a (ys.take (min ys.length (b - a))))))
            | none => False
          | _, _ => False
        | .v (.one .ns) => K (.i .i64 0) H
        | _ => False
def clear (P : Program) (H : Hp) (nx : Nat) (t : TypeId) (d : R) (K : Hp → Prop) : Prop := match elemT P t with
  | none => False
  | some e => match rowT P e with
    | none => False
    | some ks => match d with
      | .v (.one (.f l n)) => match hget H l with
        | some (.row true ks' xs') => match castRow ks ks' xs' with
          | some xs => K (hset H l nx (.row true ks (mid xs 0 (List.replicate n (zT ks)))))
          | none => False
        | _ => False
      | .v (.one (.sb l z a b)) => match hget H l, Nat.beq z ks.length with
        | some (.row true ks' xs'), true => match castRow ks ks' xs' with
          | some xs => K (hset H l nx (.row true ks (mid xs a (List.replicate (b - a) (zT ks)))))
          | none => False
        | _, _ => False
      | .v (.one .ns) => K H
      | _ => False
def makeSlice (P : Program) (H : Hp) (nx : Nat) (t : TypeId) (l c : R) (K : R → Hp → Prop) : Prop := match elemT P t, l, c with
  | some e, .v (.one (.l (.i _ l))), .v (.one (.l (.i _ c))) => match rowT P e with
    | some ks => (0 ≤ l ∧ l ≤ c ∧ c ≤ 140737488355328 ∧ c * (P.bytesOf e : Int) ≤ 140737488355328) ∧ K (.a (.f nx l.toNat)) ((nx, nx, .row true ks (List.replicate l.toNat (zT ks))) :: H)
    | none => False
  | _, _, _ => False
def buildSlice (P : Program) (H : Hp) (nx : Nat) (t : TypeId) (n : Nat) (parts : List (Nat × R)) (K : R → Hp → Prop) : Prop := match elemT P t with
  | none => False
  | some e => match rowT P e, zatoms P e, inB (n * P.cellsOf e) 65536 with
    | none, some z, true => match fillA (fun i => some (i * P.cellsOf e, P.cellsOf e)) ((List.replicate n z).flatten) parts, Nat.beq z.length (P.cellsOf e) && inB 1 z.length with
      | some cs, true => K (.a (.f nx n)) ((nx, nx, .crow (P.cellsOf e) n cs) :: H)
      | _, _ => False
    | some ks, some z, true => match fillA (fun i => some (i * P.cellsOf e, P.cellsOf e)) ((List.replicate n z).flatten) parts with
      | some cs => match group ks n cs with
        | some xs => K (.a (.f nx n)) ((nx, nx, .row true ks xs) :: H)
        | none => False
      | none => False
    | _, _, _ => False
def toBytes (H : Hp) (nx : Nat) (x : R) (K : R → Hp → Prop) : Prop := match x with
  | .v (.one (.l (.s xs))) => (xs.length ≤ 140737488355328) ∧ K (.a (.f nx xs.length)) ((nx, nx, .row false [.i .u8] xs) :: H)
  | _ => False
def asText (P : Program) (H : Hp) (nx : Nat) (t : TypeId) (x : R) (K : R → Hp → Prop) : Prop := match elemT P t with
  | none => False
  | some e => match P.underlying e, x with
    | some (.int .u8), .v (.one (.f l n)) => match hget H l with
      | some (.row true ks xs) => 0 < n ∧ K (.a (.f nx n)) ((nx, nx, .row false ks xs) :: hset H l nx .gone)
      | _ => False
    | _, _ => False
section
variable (P : Program) (T : FuncId → Option Con) (inl : FuncId → List V → Hp → Nat → (R → Hp → Nat → Prop) → Prop)
def callK (f : R) (args : List R) (H : Hp) (nx : Nat) (K : R → Hp → Nat → Prop) : Prop := match f, vals args with
  | .v (.one (.fn g cs)), some vs => match T g with
    | some S => callS S (vs ++ cs.map fun q => .one (.p q.1 q.2)) H nx K
    | none => inl g (vs ++ cs.map fun q => .one (.p q.1 q.2)) H nx K
  | _, _ => False
def isNilC : Operand → Bool
  | .const (.slice none 0 0) => true
  | _ => false
def nilK (x : R) (K : Bool → Prop) : Prop := match x with
  | .v (.one .ns) => K true
  | .v (.one (.f _ n)) => (n = 0 → K true) ∧ K false
  | .v (.one (.sb _ _ a b)) => (b - a = 0 → K true) ∧ K false
  | _ => False
def nilOp (P : Program) (op : BinOp) (t : TypeId) (x : R) (K : Bool → Prop) : Prop := match elemT P t, op with
  | some _, .eql => nilK x K
  | some _, .neq => nilK x fun b => K !b
  | _, _ => False
def opK (tm : List R) (H : Hp) (nx : Nat) (o : Op) (K : R → Hp → Nat → Prop) : Prop := match o with
  | .alloc t => match zatoms P t with
    | some z => K (.a (.p nx 0)) ((nx, nx, .cells z) :: H) (nx + 1)
    | none => False
  | .box _ x => match ev tm x with
    | .v v => match asCells v with
      | some vs => K (.a (.p nx 0)) ((nx, nx, .cells vs) :: H) (nx + 1)
      | none => False
    | _ => False
  | .buildSlice t n parts => buildSlice P H nx t n (parts.toList.map fun q => (q.1, ev tm q.2)) fun r H => K r H (nx + 1)
  | .makeSlice t l c => makeSlice P H nx t (ev tm l) (ev tm c) fun r H => K r H (nx + 1)
  | .store t a x => store P H nx t (ev tm a) (ev tm x) fun H => K .unit H (nx + 1)
  | .binOp op t x y q => match isNilC y with
    | true => nilOp P op t (ev tm x) fun b => K (.b b) H nx
    | false => (fl P tm H (.binOp op t x y q)).holds fun r => K r H nx
  | .convert s d x => match P.underlying s, P.underlying d with
    | some .string, some (.slice e) => match P.underlying e with
      | some (.int .u8) => toBytes H nx (ev tm x) fun r H => K r H (nx + 1)
      | _ => False
    | some (.slice _), some (.slice _) => match Nat.beq s d with
      | true => asText P H nx s (ev tm x) fun r H => K r H (nx + 1)
      | false => False
    | _, _ => (convert P H s d (ev tm x)).holds fun r => K r H nx
  | .call c => match c.callee with
    | .value f => callK T inl (ev tm f) (c.args.toList.map (ev tm)) H nx K
    | .builtin .append => match c.args.toList, c.argTypes.toList with
      | [s, x], [t, t'] => match Nat.beq t t' with
        | true => append P H nx t (ev tm s) (ev tm x) fun r H => K r H (nx + 1)
        | false => appendZ P H nx t t' (ev tm s) (ev tm x) fun r H => K r H (nx + 1)
      | _, _ => False
    | .builtin .copy => match c.args.toList, c.argTypes.toList with
      | [d, x], [t, _] => copy P H nx t (ev tm d) (ev tm x) fun r H => K r H (nx + 1)
      | _, _ => False
    | .builtin .clear => match c.args.toList, c.argTypes.toList with
      | [d], [t] => clear P H nx t (ev tm d) fun H => K .unit H (nx + 1)
      | _, _ => False
    | _ => (fl P tm H (.call c)).holds fun r => K r H nx
  | o => (fl P tm H o).holds fun r => K r H nx
def dstOf (ops : Array Oper) (j : Nat) : Option Tmp := (ops[j]?).bind (·.dst)
def guardK (ops : Array Oper) (g : Option (Nat × Bool)) (tm : List R) (yes no : List R → Prop) : Prop := match g with
  | none => yes tm
  | some (j, want) => match dstOf ops j with
    | some d => match tm.getD d .junk with
      | .v (.one (.l (.b c))) => match want with
        | true => ifB c (yes (tm.set d (.b true))) (no (tm.set d (.b false)))
        | false => ifB c (no (tm.set d (.b true))) (yes (tm.set d (.b false)))
      | .tup [] => no tm
      | _ => False
    | none => False
def vcOps (ops : Array Oper) : List Oper → St → (St → Prop) → Prop
  | [], σ, K => K σ
  | o :: rest, σ, K => guardK ops o.guard σ.tmps
      (fun tm => opK P T inl tm σ.H σ.nx o.op fun r H nx => vcOps ops rest ⟨put tm o.dst r, H, nx⟩ K)
      (fun tm => vcOps ops rest ⟨put tm o.dst .unit, σ.H, σ.nx⟩ K)

/-! ### regions whose order is drawn -/
def chainOp (P : Program) : Op → Bool
  | .alloc _ | .box .. | .buildSlice .. | .makeSlice .. | .store .. | .assign _ => true
  | .convert s d _ => match P.underlying s, P.underlying d with
    | some .string, _ => true
    | some (.slice _), some (.slice _) => true
    | _, _ => false
  | .call c => match c.callee with
    | .builtin .len => false
    | .builtin .min => false
    | .builtin .cap => false
    | .builtin .max => false
    | _ => true
  | .binOp _ _ _ y _ => isNilC y
  | .move _ | .pick .. | .build .. | .load .. | .nilCheck _ | .unOp .. | .makeFunc .. | .slice .. | .fieldAddr .. | .field .. | .indexAddr .. | .index .. | .extract .. => false
  | _ => true
def edges (o : Oper) : List Nat := (o.after.toList.filter (Region.binds .any)).map (·.on)
def masks : List Oper → List Nat → List Nat
  | [], acc => acc
  | o :: os, acc => masks os (acc ++ [(edges o).foldl (fun s e => s ||| (2 ^ e ||| acc.getD e 0)) 0])
def reads : Op → List Nat := fun o => o.operands.toList.filterMap fun
  | .tmp t => some t
  | _ => none
def gtmp (ops : Array Oper) (o : Oper) : List Nat := (o.guard.bind fun g => dstOf ops g.1).toList
def looks (ops : Array Oper) (o : Oper) : List Nat := reads o.op ++ gtmp ops o
def names (ops : Array Oper) (o : Oper) : List Nat := o.dst.toList ++ looks ops o
def okReg (ops : Array Oper) : Bool :=
  let os := enum 0 ops.toList
  let ms := masks ops.toList []
  os.all fun x => match x.2.dst with
    | none => true
    | some d => os.all fun y => match Nat.beq x.1 y.1 with
      | true => chainOp P x.2.op || !(looks ops x.2).contains d
      | false => !(names ops y.2).contains d || ((ms.getD y.1 0).testBit x.1 || (chainOp P x.2.op && (chainOp P y.2.op || (ms.getD x.1 0).testBit y.1)))
def readyB (done : List Bool) (i : Nat) (o : Oper) : Bool := !(done.getD i true) && (edges o).all fun e => done.getD e false
def firstF (done : List Bool) : List (Nat × Oper) → Option (Nat × Oper)
  | [] => none
  | x :: xs => match readyB done x.1 x.2 && !chainOp P x.2.op with
    | true => some x
    | false => firstF done xs
def heapOf (tm : List R) : Op → Option Nat
  | .load _ a => match ev tm a with
    | .v (.one a) => tgt' a
    | _ => none
  | .convert _ _ x => match ev tm x with
    | .v (.one a) => tgt' a
    | _ => none
  | _ => none
where tgt' : A → Option Nat
  | .p l _ => some l
  | .e l _ _ _ => some l
  | .f l _ => some l
  | .sb l _ _ _ => some l
  | _ => none
def still (ops : List (Nat × Oper)) (done : List Bool) (m : Nat) (tm : List R) (H H' : Hp) : Bool :=
  ops.all fun x => !(done.getD x.1 false) || chainOp P x.2.op || m.testBit x.1 || (match heapOf tm x.2.op with
    | none => true
    | some l => Nat.beq (hst H l) (hst H' l))
def conj : List Prop → Prop
  | [] => True
  | [p] => p
  | p :: ps => p ∧ conj ps
def regA (ops : Array Oper) (os : List (Nat × Oper)) (ms : List Nat) : Nat → List Bool → St → (St → Prop) → Prop
  | 0, done, σ, K => match done.all id with
    | true => K σ
    | false => False
  | n + 1, done, σ, K => match firstF P done os with
    | some x => guardK ops x.2.guard σ.tmps
        (fun tm => (fl P tm σ.H x.2.op).holds fun r => regA ops os ms n (done.set x.1 true) ⟨put tm x.2.dst r, σ.H, σ.nx⟩ K)
        (fun tm => regA ops os ms n (done.set x.1 true) ⟨put tm x.2.dst .unit, σ.H, σ.nx⟩ K)
    | none => match os.filter fun x => readyB done x.1 x.2 with
      | [] => False
      | xs => conj (xs.map fun x => guardK ops x.2.guard σ.tmps
          (fun tm => opK P T inl tm σ.H σ.nx x.2.op fun r H nx => ifB (still P os done (ms.getD x.1 0) tm σ.H H) (regA ops os ms n (done.set x.1 true) ⟨put tm x.2.dst r, H, nx⟩ K) False)
          (fun tm => regA ops os ms n (done.set x.1 true) ⟨put tm x.2.dst .unit, σ.H, σ.nx⟩ K))
end
/-! ### code -/
inductive Ex | n | x (id : Nat) | r
structure Ann where
  X : Type
  slots : List Nat
  vals : X → List R
  fix : List Nat
  new : List Nat
  drop : List Nat
  obs : X → List Ob
  keep : List Nat := []
inductive Lan | none | unroll (n : Nat) | inv (a : Ann) | alts (l : List Ann) | many (l : List Ann)
structure AnnI where
  an : Ann
  I : an.X → Prop
  μ : an.X → Nat
def asg : Code → List Nat
  | .region _ ops _ => ops.toList.filterMap (·.dst) ++ ops.toList.filterMap fun o => o.guard.bind fun g => dstOf ops g.1
  | .seq a b => asg a ++ asg b
  | .cond c a b => (match c with | .tmp t => [t] | _ => []) ++ asg a ++ asg b
  | .block _ b => asg b
  | .loop b => asg b
  | .scope b => asg b
  | _ => []
def setMany : List R → List Nat → List R → List R
  | tm, s :: ss, r :: rs => setMany (tm.set s r) ss rs
  | tm, _, _ => tm
def havoc (tm : List R) (asq : List Nat) : List R := asq.foldl (fun tm d => tm.set d .junk) tm
def newH (st : Nat) : List Nat → List Ob → Hp → Hp
  | l :: ls, o :: os, H => hset (newH st ls os H) l st o
  | _, _, H => H
def dropH (st : Nat) : List Nat → Hp → Hp
  | [], H => H
  | l :: ls, H => hset (dropH st ls H) l st .gone
def maxL : List Nat → Nat → Nat
  | [], m => m
  | l :: ls, m => maxL ls (max (l + 1) m)
def idA (H : Hp) (l : Nat) : A := match hget H l with
  | some (.row _ _ xs) => .f l xs.length
  | some (.crow _ n _) => .f l n
  | _ => .p l 0
def idR (fix : List Nat) (H : Hp) : Rn := fix.map fun l => (l, idA H l)
def keptH (H H' : Hp) (but : List Nat) : Bool := H.all fun q => but.contains q.1 || Nat.beq (hst H' q.1) q.2.1
def labsIn (ls : List Nat) : R → Bool := fun _ => ls.isEmpty
section
variable (P : Program) (T : FuncId → Option Con) (inl : FuncId → List V → Hp → Nat → (R → Hp → Nat → Prop) → Prop) (Lp : Nat → Lan)
def slotsOf (tm : List R) (ss : List Nat) : List R := ss.map fun s => tm.getD s .junk
inductive stuck (k : Nat) (σ : St) : Prop
def unr (f : St → (Ex → St → Prop) → Prop) : Nat → St → (Ex → St → Prop) → Prop
  | 0, _, _ => False
  | n + 1, σ, Q => f σ fun e σ => match e with
    | .n => unr f n σ Q
    | e => Q e σ
def atHead (a : Ann) (σ₀ σ : St) (x : a.X) : Prop :=
  mtRs (idR (a.fix ++ a.keep) σ.H) (a.vals x) (slotsOf σ.tmps a.slots) fun r => mtHp r σ.H ((a.fix ++ a.new).zip (a.obs x)) fun r =>
    ifB (apartR r ((a.fix ++ a.new).zip (a.obs x)) && (Nat.beq (a.obs x).length (a.fix ++ a.new).length && (a.obs x).all ownOb) && (r.all (fun q => ((a.fix ++ a.keep) ++ a.new).contains q.1) &&
      a.new.all fun l => match (rget r l).bind tgt with
        | some t => a.drop.contains t || (hget σ₀.H t).isNone
        | none => true)) True False
def annOk (a : Ann) (σ : St) (asq : List Nat) : Bool := a.new.all (fun l => Nat.ble σ.nx l) && ((a.fix ++ a.keep).all (fun l => (hget σ.H l).isSome) && (a.drop.all (fun l => (hget σ.H l).isSome) && a.slots.all fun s => asq.contains s))
def headSt (a : Ann) (σ : St) (asq : List Nat) (x : a.X) : St :=
  ⟨setMany (havoc σ.tmps asq) a.slots (a.vals x), newH (maxL a.new σ.nx) (a.fix ++ a.new) (a.obs x) (dropH (maxL a.new σ.nx) a.drop σ.H), maxL a.new σ.nx + 1⟩
def invP (a : Ann) (σ : St) (asq : List Nat) (f : St → (Ex → St → Prop) → Prop) (Q : Ex → St → Prop) : Prop := ifB (annOk a σ asq) (∃ (I : a.X → Prop) (μ : a.X → Nat), (∃ x, I x ∧ atHead a σ σ x) ∧
        ∀ x, I x → f (headSt a σ asq x) fun e σ' => match e with
          | .n => ifB (keptH σ.H σ'.H (a.fix ++ a.drop)) (∃ y, I y ∧ μ y < μ x ∧ atHead a σ σ' y) False
          | e => Q e σ') False
def manyE : List Ann → List AnnI → (List AnnI → Prop) → Prop
  | [], acc, K => K acc
  | a :: asq, acc, K => ∃ (I : a.X → Prop) (μ : a.X → Nat), manyE asq (acc ++ [⟨a, I, μ⟩]) K
def anyH (σ₀ σ : St) (lt : Nat → Prop) : List AnnI → Prop
  | [] => False
  | j :: js => (ifB (keptH σ₀.H σ.H (j.an.fix ++ j.an.drop)) (∃ y, j.I y ∧ lt (j.μ y) ∧ atHead j.an σ₀ σ y) False) ∨ anyH σ₀ σ lt js
def eachB (σ : St) (asq : List Nat) (f : St → (Ex → St → Prop) → Prop) (Q : Ex → St → Prop) (js₀ : List AnnI) : List AnnI → Prop
  | [] => True
  | j :: js => (∀ x, j.I x → f (headSt j.an σ asq x) fun e σ' => match e with
    | .n => anyH σ σ' (fun m => m < j.μ x) js₀
    | e => Q e σ') ∧ eachB σ asq f Q js₀ js
def manyP (l : List Ann) (σ : St) (asq : List Nat) (f : St → (Ex → St → Prop) → Prop) (Q : Ex → St → Prop) : Prop := ifB (l.all fun a => annOk a σ asq)
  (manyE l [] fun js => anyH σ σ (fun _ => True) js ∧ eachB σ asq f Q js js) False
def vc : Code → Nat → St → (Ex → St → Prop) → Prop
  | .skip, _, σ, Q => Q .n σ
  | .region _ ops false, _, σ, Q => vcOps P T inl ops ops.toList σ (Q .n)
  | .region _ ops true, _, σ, Q => ifB (okReg P ops) (regA P T inl ops (enum 0 ops.toList) (masks ops.toList []) ops.size (List.replicate ops.size false) σ (Q .n)) False
  | .seq a b, k, σ, Q => vc a k σ fun e σ => match e with
    | .n => vc b k σ Q
    | e => Q e σ
  | .cond c a b, k, σ, Q => match c, ev σ.tmps c with
    | .tmp t, .v (.one (.l (.b x))) => ifB x (vc a k ⟨σ.tmps.set t (.b true), σ.H, σ.nx⟩ Q) (vc b k ⟨σ.tmps.set t (.b false), σ.H, σ.nx⟩ Q)
    | .const _, .v (.one (.l (.b x))) => ifB x (vc a k σ Q) (vc b k σ Q)
    | _, _ => False
  | .block id b, _, σ, Q => vc b id σ fun e σ => match e with
    | .x i => (match Nat.beq i id with
      | true => Q .n σ
      | false => Q (.x i) σ)
    | e => Q e σ
  | .loop b, k, σ, Q => match Lp k with
    | .none => stuck k σ
    | .unroll n => unr (fun σ Q => vc b k σ Q) n σ Q
    | .inv a => invP a σ (asg b) (fun σ Q => vc b k σ Q) Q
    | .alts l => match l.find? fun a => annOk a σ (asg b) with
      | .some a => invP a σ (asg b) (fun σ Q => vc b k σ Q) Q
      | .none => stuck k σ
    | .many l => manyP l σ (asg b) (fun σ Q => vc b k σ Q) Q
  | .exit id, _, σ, Q => Q (.x id) σ
  | .ret, _, σ, Q => Q .r σ
  | _, _, _, _ => False
def resOf (fn : Func) (σ : St) (K : R → Prop) : Prop := match fn.results.toList with
  | [.tmp t] => K (σ.tmps.getD t .junk)
  | [.cell t ty] => (load P σ.H ty (σ.tmps.getD t .junk)).holds K
  | rs => go rs [] K
where go : List ResultVar → List V → (R → Prop) → Prop
  | [], acc, K => K (.tup acc)
  | .tmp t :: rs, acc, K => match σ.tmps.getD t .junk with
    | .v v => go rs (acc ++ [v]) K
    | _ => False
  | .cell t ty :: rs, acc, K => (load P σ.H ty (σ.tmps.getD t .junk)).holds fun r => match r with
    | .v v => go rs (acc ++ [v]) K
    | _ => False
def startT (fn : Func) (args : List V) : List R := args.map .v ++ List.replicate (fn.ntmps - args.length) .junk
def bodyK (fn : Func) (args : List V) (H : Hp) (nx : Nat) (K : R → Hp → Nat → Prop) : Prop := match fn.body with
  | some b => vc P T inl Lp b 1000000 ⟨startT fn args, H, nx⟩ fun e σ => match e with
    | .n => resOf P fn σ fun r => K r σ.H σ.nx
    | .r => resOf P fn σ fun r => K r σ.H σ.nx
    | .x _ => False
  | none => False
end
def inlN (P : Program) (T : FuncId → Option Con) (Lq : FuncId → Nat → Lan) : Nat → FuncId → List V → Hp → Nat → (R → Hp → Nat → Prop) → Prop
  | 0, _, _, _, _, _ => False
  | n + 1, f, args, H, nx, K => match P.funcs[f]? with
    | some fn => bodyK P T (inlN P T Lq n) (Lq f) fn args H nx K
    | none => False
def heap0 (l : List Ob) : Hp := (enum 0 l).map fun q => (q.1, 0, q.2)
def likeOb : Ob → Ob → Bool
  | .cells _, .cells _ => true
  | .row true _ _, .row true _ _ => true
  | .abs _, .abs _ => true
  | .crow _ _ _, .crow _ _ _ => true
  | _, .gone => true
  | _, _ => false
def outOK (h : List Ob) (out : List (Nat × Ob)) : Bool := out.all fun q => (match q.2 with
  | .gone => true
  | o => ownOb o) && (match h[q.1]? with
  | some o => ownOb o && likeOb o q.2
  | none => true)
def newT (n m : Nat) (r : Rn) (out : List (Nat × Ob)) : Bool := out.all fun q => Nat.blt q.1 m && (Nat.blt q.1 n || match (rget r q.1).bind tgt with
  | some t => Nat.ble n t || out.any fun p => Nat.beq p.1 t
  | none => true)
def anyOut {X : Type} (x : X) (h : List Ob) (r : R) (H : Hp) : List (Outc X) → Prop
  | [] => False
  | [o] => one o
  | o :: os => one o ∨ anyOut x h r H os
where one (o : Outc X) : Prop := ∃ y : o.Y, o.post x y ∧ mtR (idR ((enum 0 h).map (·.1)) (heap0 h)) (o.res x y) r fun r' => mtHp r' H (o.out x y) fun r' =>
      ifB (apartR r' (o.out x y) && (keptH (heap0 h) H ((o.out x y).map (·.1)) && (outOK h (o.out x y) && (newT h.length (h.length + o.nn) r' (o.out x y) && r'.all fun q => Nat.blt q.1 (h.length + o.nn))))) True False
def owes (P : Program) (T : FuncId → Option Con) (Lq : FuncId → Nat → Lan) (n : Nat) (f : FuncId) (fn : Func) (S : Con) : Prop :=
  ∀ x : S.X, S.pre x → bodyK P T (inlN P T Lq n) (Lq f) fn (S.args x) (heap0 (S.heap x)) (S.heap x).length fun r H _ => anyOut x (S.heap x) r H S.outs
end Sx

set_option linter.all false
namespace Sx
open Go
structure Nu where
  blk : Nat → Nat
  sv : Nat → Value
  fp : Nat → Nat → Prop
def okS (xs : List Int) : Prop := ∀ x ∈ xs, 0 ≤ x ∧ x ≤ 255
def toBA (xs : List Int) : ByteArray := ⟨(xs.map fun x => UInt8.ofNat x.toNat).toArray⟩
def L.val : L → Value
  | .b x => .bool x
  | .i k n => .int k n
  | .s xs => .string (toBA xs)
def L.wf : L → Prop
  | .b _ => True
  | .i k n => lo k ≤ n ∧ n ≤ hi k
  | .s xs => okS xs
def addA (base : Option Addr) (n : Nat) : Option Addr := base.map fun a => ⟨a.block, a.off + n, none⟩
def okSl (base : Option Addr) (n cap : Nat) : Prop := (n ≤ cap ∧ cap ≤ maxLen) ∧ (∀ x, base = some x → x.spot = none) ∧ (base = none → cap = 0)
def relA (ν : Nu) (N : Nat) : A → Value → Prop
  | .junk, _ => True
  | .l x, v => x.wf ∧ v = x.val
  | .p l o, v => l < N ∧ v = .pointer (some ⟨ν.blk l, o, none⟩)
  | .e l z i o, v => l < N ∧ ∃ b off n cap, ν.sv l = .slice (some ⟨b, off, none⟩) n cap ∧ i < n ∧ v = .pointer (some ⟨b, off + i * z + o, none⟩)
  | .np, v => v = .pointer none
  | .f l n, v => l < N ∧ v = ν.sv l ∧ ∃ base cap, ν.sv l = .slice base n cap ∧ okSl base n cap
  | .sb l z a b, v => l < N ∧ ∃ base n cap base', ν.sv l = .slice base n cap ∧ a ≤ b ∧ b ≤ n ∧ okSl base n cap ∧ v = .slice base' (b - a) (cap - a) ∧ (a < cap ∨ a = 0 → base' = addA base (a * z)) ∧ okSl base' (b - a) (cap - a)
  | .ns, v => v = .slice none 0 0
  | .z, v => ∃ base, v = .slice base 0 0 ∧ ∀ x, base = some x → x.spot = none
  | .fn f cs, v => (∀ q ∈ cs, q.1 < N) ∧ v = .func (.func f) #[] (cs.map fun q => Value.pointer (some ⟨ν.blk q.1, q.2, none⟩)).toArray
  | .o x, v => v = x ∧ x.oneCell' = true
def relC (ν : Nu) (N : Nat) (a : A) (v : Value) : Prop := relA ν N a v ∧ v.oneCell' = true
def relAs (ν : Nu) (N : Nat) : List A → List Value → Prop
  | [], [] => True
  | a :: asq, v :: vs => relC ν N a v ∧ relAs ν N asq vs
  | _, _ => False
def relV (ν : Nu) (N : Nat) : V → Value → Prop
  | .one a, v => relA ν N a v
  | .agg cs, v => ∃ vs : Array Value, v = .agg vs ∧ relAs ν N cs vs.toList
def relVs (ν : Nu) (N : Nat) : List V → List Value → Prop
  | [], [] => True
  | a :: asq, v :: vs => relV ν N a v ∧ relVs ν N asq vs
  | _, _ => False
def relR (ν : Nu) (N : Nat) : R → Value → Prop
  | .v x, v => relV ν N x v
  | .tup xs, v => ∃ vs : Array Value, v = .tuple vs ∧ relVs ν N xs vs.toList
def relT (ν : Nu) (N : Nat) (tm : List R) (ts : Array Value) : Prop := tm.length = ts.size ∧ ∀ i, relR ν N (tm.getD i .junk) (ts.getD i undef)
def flat (ks : List Kd) (xs : List (Tup ks)) : List Value := xs.flatMap fun x => (leafs ks x).map L.val
def wfT (ks : List Kd) (xs : List (Tup ks)) : Prop := ∀ x ∈ xs, ∀ l ∈ leafs ks x, l.wf
def obH (ν : Nu) (N : Nat) (w : World) (l : Nat) : Ob → Prop
  | .cells cs => (∀ b, ν.fp l b ↔ b = ν.blk l) ∧ ∃ vs T, w.heap[ν.blk l]? = some (.cells vs T (0, 0)) ∧ relAs ν N cs vs.toList
  | .row true ks xs => 0 < ks.length ∧ wfT ks xs ∧ (∀ b, ν.fp l b ↔ (ν.sv l).ownBlock = some b) ∧ ∃ e, w.ownsRow 0 e ks.length (ν.sv l) xs.length (flat ks xs)
  | .row false ks xs => 0 < ks.length ∧ wfT ks xs ∧ (∀ b, ν.fp l b ↔ (ν.sv l).ownBlock = some b ∧ xs ≠ []) ∧ ∃ base cap, ν.sv l = .slice base xs.length cap ∧ okSl base xs.length cap ∧
      ∀ j v, (flat ks xs)[j]? = some v → ∃ a, base = some a ∧ w.cell? (a.add j) = some v
  | .abs r => (∀ b, ν.fp l b → b < w.heap.size) ∧ ∀ w' : World, (∀ b, ν.fp l b → w'.heap[b]? = w.heap[b]?) → r w' (ν.blk l) (ν.fp l)
  | .gone => True
  | .crow z n cs => 0 < z ∧ (∀ b, ν.fp l b ↔ (ν.sv l).ownBlock = some b) ∧ ∃ e vs, w.ownsRow 0 e z (ν.sv l) n vs ∧ relAs ν N cs vs
def fpO (ν : Nu) (l : Nat) : Ob → Nat → Prop
  | .gone, _ => False
  | _, b => ν.fp l b
structure hpH (ν : Nu) (N : Nat) (w : World) (H : Hp) : Prop where
  ob : ∀ l o, hget H l = some o → l < N ∧ obH ν N w l o
  st : ∀ l o, hget H l = some o → hst H l < N
  ap : ∀ l l' o o', l ≠ l' → hget H l = some o → hget H l' = some o' → (ownOb o = true ∨ ownOb o' = true) → ∀ b, fpO ν l o b → fpO ν l' o' b → False
/-! ### what quiet operations come to -/
def Fl.Out (r : R) : Fl → Prop
  | .bad => False
  | .ok r' => r = r'
  | .ob p x => p ∧ x.Out r
  | .alt c x y => if c = true then x.Out r else y.Out r
theorem Fl.holds_out {K : R → Prop} : ∀ {f : Fl}, f.holds K → ∃ r, f.Out r ∧ K r
  | .bad, h => h.elim
  | .ok r, h => ⟨r, rfl, h⟩
  | .ob p x, h => let ⟨r, h1, h2⟩ := Fl.holds_out (f := x) h.2; ⟨r, ⟨h.1, h1⟩, h2⟩
  | .alt true x y, h => let ⟨r, h1, h2⟩ := Fl.holds_out (f := x) h; ⟨r, by simpa [Fl.Out] using h1, h2⟩
  | .alt false x y, h => let ⟨r, h1, h2⟩ := Fl.holds_out (f := y) h; ⟨r, by simpa [Fl.Out] using h1, h2⟩
section
variable {ν : Nu} {N : Nat}
theorem relA_one {a : A} {v : Value} (h : relA ν N a v) (hj : a ≠ .junk) : v.oneCell' = true := by
  cases a with
  | junk => exact absurd rfl hj
  | l x => obtain ⟨_, rfl⟩ := h; cases x <;> rfl
  | p l o => obtain ⟨_, rfl⟩ := h; rfl
  | e l z i o => obtain ⟨_, b, off, n, cap, _, _, rfl⟩ := h; rfl
  | np => cases h; rfl
  | f l n => obtain ⟨_, rfl, base, cap, h, _⟩ := h; rw [h]; rfl
  | sb l z a b => obtain ⟨_, base, n, cap, base', _, _, _, _, rfl, _⟩ := h; rfl
  | ns => cases h; rfl
  | z => obtain ⟨_, rfl, _⟩ := h; rfl
  | fn f cs => obtain ⟨_, rfl⟩ := h; rfl
  | o x => obtain ⟨rfl, h⟩ := h; exact h
theorem relAs_length : ∀ {cs : List A} {vs : List Value}, relAs ν N cs vs → cs.length = vs.length
  | [], [], _ => rfl
  | _ :: _, _ :: _, h => by simp [relAs_length h.2]
  | [], _ :: _, h => h.elim
  | _ :: _, [], h => h.elim
theorem relAs_get : ∀ {cs : List A} {vs : List Value}, relAs ν N cs vs → ∀ i (h : i < vs.length), relC ν N (cs.getD i .junk) vs[i]
  | _ :: _, _ :: _, h, 0, _ => h.1
  | _ :: cs, _ :: vs, h, i + 1, hi => by simpa using relAs_get h.2 i (by simpa using hi)
  | [], _ :: _, h, _, _ => h.elim
theorem relAs_of : ∀ {cs : List A} {vs : List Value}, cs.length = vs.length → (∀ i (h : i < vs.length), relC ν N (cs.getD i .junk) vs[i]) → relAs ν N cs vs
  | [], [], _, _ => trivial
  | c :: cs, v :: vs, hl, h => ⟨h 0 (by simp), relAs_of (by simpa using hl) fun i hi => by have := h (i + 1) (by simpa using hi); simpa only [List.getD_cons_succ, List.getElem_cons_succ] using this⟩
theorem relAs_drop {cs : List A} {vs : List Value} (h : relAs ν N cs vs) (n : Nat) : relAs ν N (cs.drop n) (vs.drop n) := by
  have hl := relAs_length h
  refine relAs_of (by simp [hl]) fun i hi => ?_
  have := relAs_get h (n + i) (by simp at hi; omega)
  simpa [List.getD_eq_getElem?_getD] using this
theorem relAs_take {cs : List A} {vs : List Value} (h : relAs ν N cs vs) (n : Nat) : relAs ν N (cs.take n) (vs.take n) := by
  have hl := relAs_length h
  refine relAs_of (by simp [hl]) fun i hi => ?_
  have hi' : i < n ∧ i < vs.length := by simp at hi; omega
  have := relAs_get h i hi'.2
  simpa [List.getD_eq_getElem?_getD, List.getElem?_take, hi'.1] using this
theorem relAs_append : ∀ {cs ds : List A} {vs us : List Value}, relAs ν N cs vs → relAs ν N ds us → relAs ν N (cs ++ ds) (vs ++ us)
  | [], _, [], _, _, h => h
  | _ :: _, _, _ :: _, _, h, h' => ⟨h.1, relAs_append h.2 h'⟩
  | [], _, _ :: _, _, h, _ => h.elim
  | _ :: _, _, [], _, h, _ => h.elim
theorem toBA_bytes (s : ByteArray) : toBA (s.data.toList.map fun c => (c.toNat : Int)) = s := by
  cases s with
  | mk d =>
    unfold toBA
    have e : ((fun x : Int => UInt8.ofNat x.toNat) ∘ fun c : UInt8 => (c.toNat : Int)) = id := by funext c; simp
    simp [e]
theorem okS_bytes (s : ByteArray) : okS (s.data.toList.map fun c => (c.toNat : Int)) := by
  intro x hx
  simp only [List.mem_map] at hx
  obtain ⟨c, _, rfl⟩ := hx
  have := c.toNat_lt
  omega
theorem relA_cst (v : Value) : relA ν N (cstA v) v := by
  cases v with
  | bool b => exact ⟨trivial, rfl⟩
  | int k n =>
    simp only [cstA]
    split
    · rename_i h1 h2
      exact ⟨⟨of_decide_eq_true h1, of_decide_eq_true h2⟩, rfl⟩
    · trivial
  | string s => exact ⟨okS_bytes s, by simp [L.val, toBA_bytes]⟩
  | pointer a => cases a <;> first | rfl | exact ⟨rfl, rfl⟩
  | slice a n c =>
    by_cases h : a = none ∧ n = 0 ∧ c = 0
    · obtain ⟨rfl, rfl, rfl⟩ := h
      rfl
    · have e : cstA (.slice a n c) = .o (.slice a n c) := by
        cases a with
        | some a => rfl
        | none =>
          cases n with
          | succ n => rfl
          | zero => cases c with
            | succ c => rfl
            | zero => exact absurd ⟨rfl, rfl, rfl⟩ h
      rw [e]
      exact ⟨rfl, rfl⟩
  | agg cs => trivial
  | tuple vs => trivial
  | float k b => exact ⟨rfl, rfl⟩
  | complex k a b => exact ⟨rfl, rfl⟩
  | map r => exact ⟨rfl, rfl⟩
  | chan r => exact ⟨rfl, rfl⟩
  | func f a b => exact ⟨rfl, rfl⟩
  | nilFunc => exact ⟨rfl, rfl⟩
  | iface t v => exact ⟨rfl, rfl⟩
  | nilIface => exact ⟨rfl, rfl⟩
end
end Sx

set_option linter.all false
namespace Sx
open Go
section
variable {P : Program} {ν : Nu} {N : Nat} {w : World}
theorem relAs_cst : ∀ (cs : List Value), (cs.all fun c => c.oneCell') = true → relAs ν N (cs.map cstA) cs
  | [], _ => trivial
  | c :: cs, h => by
    simp only [List.all_cons, Bool.and_eq_true] at h
    exact ⟨⟨relA_cst c, h.1⟩, relAs_cst cs h.2⟩
theorem relR_junk (v : Value) : relR ν N .junk v := trivial
theorem relR_cst (v : Value) : relR ν N (cst v) v := by
  cases v with
  | agg cs =>
    simp only [cst]
    split
    · rename_i h
      exact ⟨cs, rfl, relAs_cst _ h⟩
    · trivial
  | tuple vs => trivial
  | bool b => exact relA_cst (ν := ν) (N := N) (.bool b)
  | int k n => exact relA_cst (ν := ν) (N := N) (.int k n)
  | string s => exact relA_cst (ν := ν) (N := N) (.string s)
  | pointer a => exact relA_cst (ν := ν) (N := N) (.pointer a)
  | slice a n c => exact relA_cst (ν := ν) (N := N) (.slice a n c)
  | float k b => exact relA_cst (ν := ν) (N := N) (.float k b)
  | complex k a b => exact relA_cst (ν := ν) (N := N) (.complex k a b)
  | map r => exact relA_cst (ν := ν) (N := N) (.map r)
  | chan r => exact relA_cst (ν := ν) (N := N) (.chan r)
  | func f a b => exact relA_cst (ν := ν) (N := N) (.func f a b)
  | nilFunc => exact relA_cst (ν := ν) (N := N) .nilFunc
  | iface t v => exact relA_cst (ν := ν) (N := N) (.iface t v)
  | nilIface => exact relA_cst (ν := ν) (N := N) .nilIface
theorem relR_ev {tm : List R} {a : Act} (h : relT ν N tm a.tmps) : ∀ o : Operand, relR ν N (ev tm o) (a.eval o)
  | .tmp t => h.2 t
  | .const v => relR_cst v
  | .func f => ⟨by simp, rfl⟩
  | .global g => trivial
theorem relI {k : IntKind} {n : Int} {v : Value} (h : relR ν N (.v (.one (.l (.i k n)))) v) : (lo k ≤ n ∧ n ≤ hi k) ∧ v = .int k n := h
theorem relI_mk {k : IntKind} {n : Int} (h : lo k ≤ n ∧ n ≤ hi k) : relR ν N (.v (.one (.l (.i k n)))) (.int k n) := ⟨h, rfl⟩
theorem relB_mk (b : Bool) : relR ν N (.v (.one (.l (.b b)))) (.bool b) := ⟨trivial, rfl⟩
theorem wrap_in {k : IntKind} {z : Int} (h : lo k ≤ z ∧ z ≤ hi k) : k.wrap z = z := by
  cases k <;> simp only [lo, hi] at h <;> simp only [IntKind.wrap, IntKind.bits, IntKind.signed] <;> simp <;> omega
theorem into_sound {k : IntKind} {z : Int} {r : R} (h : (into k z).Out r) : relR ν N r (.int k (k.wrap z)) := by
  cases k with
  | u8 => cases h; exact ⟨by show _ ≤ _ ∧ _ ≤ _; simp only [lo, hi]; omega, by simp [L.val, IntKind.wrap, IntKind.bits, IntKind.signed]⟩
  | u16 => cases h; exact ⟨by show _ ≤ _ ∧ _ ≤ _; simp only [lo, hi]; omega, by simp [L.val, IntKind.wrap, IntKind.bits, IntKind.signed]⟩
  | u32 => cases h; exact ⟨by show _ ≤ _ ∧ _ ≤ _; simp only [lo, hi]; omega, by simp [L.val, IntKind.wrap, IntKind.bits, IntKind.signed]⟩
  | u64 => cases h; exact ⟨by show _ ≤ _ ∧ _ ≤ _; simp only [lo, hi]; omega, by simp [L.val, IntKind.wrap, IntKind.bits, IntKind.signed]⟩
  | i8 => obtain ⟨h1, h2⟩ := h; cases h2; rw [wrap_in h1]; exact ⟨h1, rfl⟩
  | i16 => obtain ⟨h1, h2⟩ := h; cases h2; rw [wrap_in h1]; exact ⟨h1, rfl⟩
  | i32 => obtain ⟨h1, h2⟩ := h; cases h2; rw [wrap_in h1]; exact ⟨h1, rfl⟩
  | i64 => obtain ⟨h1, h2⟩ := h; cases h2; rw [wrap_in h1]; exact ⟨h1, rfl⟩
theorem wrap_range (k : IntKind) (z : Int) : lo k ≤ k.wrap z ∧ k.wrap z ≤ hi k := by
  cases k <;> simp only [lo, hi, IntKind.wrap, IntKind.bits, IntKind.signed] <;> simp <;> (try split) <;> omega
theorem conv_sound {k k' : IntKind} {z : Int} {r : R} (hz : lo k ≤ z ∧ z ≤ hi k) (h : (conv k k' z).Out r) : relR ν N r (.int k' (k'.wrap z)) := by
  unfold conv at h
  split at h
  · rename_i h1 h2
    cases h
    have h1 := of_decide_eq_true h1
    have h2 := of_decide_eq_true h2
    rw [wrap_in (k := k') ⟨by omega, by omega⟩]
    exact ⟨⟨by omega, by omega⟩, rfl⟩
  · exact into_sound h
theorem bits_range (op : BinOp) (k : IntKind) (x y : Int) : lo k ≤ bits op k x y ∧ bits op k x y ≤ hi k := by
  unfold bits
  exact wrap_range k _
theorem lo_le (k : IntKind) : lo k ≤ 0 := by cases k <;> decide
theorem hi_ge (k : IntKind) : 0 ≤ hi k := by cases k <;> decide
abbrev bin (op : BinOp) (t : TypeId) (xo yo : Operand) (x y : Value) : Sem Value := do eqGuard op t xo yo x y; binOp op t x y
theorem arith_sound {op : BinOp} {k : IntKind} {x y : Int} {r : R} {t : TypeId} {xo yo : Operand} (hx : lo k ≤ x ∧ x ≤ hi k) (h : (arith op k x y).Out r) :
    ∃ v, relR ν N r v ∧ (bin op t xo yo (.int k x) (.int k y)).run P w = .ok v w := by
  have h0 := lo_le k
  cases op with
  | add => exact ⟨_, into_sound h, by simp [bin, go_sem, Op.intArith]⟩
  | sub => exact ⟨_, into_sound h, by simp [bin, go_sem, Op.intArith]⟩
  | mul => exact ⟨_, into_sound h, by simp [bin, go_sem, Op.intArith]⟩
  | quo =>
    obtain ⟨⟨h1, h2⟩, h3⟩ := h
    cases h3
    have e : x.tdiv y = x / y := Int.tdiv_eq_ediv_of_nonneg h1
    have b1 : 0 ≤ x / y := Int.ediv_nonneg h1 (by omega)
    have b2 : x / y ≤ x := Int.ediv_le_self _ h1
    have hy : y ≠ 0 := by omega
    refine ⟨.int k (x / y), relI_mk ⟨by omega, by omega⟩, ?_⟩
    simp only [bin, eqGuard_at_int, binOp_quo, Op.intDiv, if_neg hy, e]
    rw [wrap_in (k := k) ⟨by omega, by omega⟩]
    rfl
  | rem =>
    obtain ⟨⟨h1, h2⟩, h3⟩ := h
    cases h3
    have e : x.tmod y = x % y := Int.tmod_eq_emod_of_nonneg h1
    have b1 : 0 ≤ x % y := Int.emod_nonneg _ (by omega)
    have b2 : x % y ≤ x := by
      by_cases hl : x < y
      · rw [Int.emod_eq_of_lt h1 hl]; omega
      · have := Int.emod_lt_of_pos x h2; omega
    have hy : y ≠ 0 := by omega
    refine ⟨.int k (x % y), relI_mk ⟨by omega, by omega⟩, ?_⟩
    simp only [bin, eqGuard_at_int, binOp_rem, Op.intDiv, if_neg hy, e]
    rfl
  | and => cases h; exact ⟨_, relI_mk (bits_range ..), by simp [bin, go_sem]⟩
  | or => cases h; exact ⟨_, relI_mk (bits_range ..), by simp [bin, go_sem]⟩
  | xor => cases h; exact ⟨_, relI_mk (bits_range ..), by simp [bin, go_sem]⟩
  | andNot => cases h; exact ⟨_, relI_mk (bits_range ..), by simp [bin, go_sem]⟩
  | eql => cases h; exact ⟨_, relB_mk _, by simp only [bin, eqGuard_at_int, binOp_eql]; simp [Bool.beq_eq_decide_eq]⟩
  | neq => cases h; exact ⟨_, relB_mk _, by simp only [bin, eqGuard_at_int, binOp_neq]; simp [bne, Bool.beq_eq_decide_eq]⟩
  | lss => cases h; exact ⟨_, relB_mk _, by simp only [bin, eqGuard_at_int, binOp_lss]; rfl⟩
  | leq => cases h; exact ⟨_, relB_mk _, by simp only [bin, eqGuard_at_int, binOp_leq]; rfl⟩
  | gtr => cases h; exact ⟨_, relB_mk _, by simp only [bin, eqGuard_at_int, binOp_gtr]; rfl⟩
  | geq => cases h; exact ⟨_, relB_mk _, by simp only [bin, eqGuard_at_int, binOp_geq]; rfl⟩
  | _ => exact h.elim
theorem shift_sound {op : BinOp} {k k' : IntKind} {x y : Int} {r : R} {t : TypeId} {xo yo : Operand} (hx : lo k ≤ x ∧ x ≤ hi k) (h : (shift op k x y).Out r) :
    ∃ v, relR ν N r v ∧ (bin op t xo yo (.int k x) (.int k' y)).run P w = .ok v w := by
  cases op with
  | shl =>
    obtain ⟨h1, h2⟩ := h
    refine ⟨_, into_sound h2, ?_⟩
    simp only [bin, eqGuard_at_int, binOp_shl, Op.shift, if_neg (show ¬ y < 0 by omega)]
    rfl
  | shr =>
    obtain ⟨h1, h2⟩ := h
    cases h2
    have hp : (0 : Int) < 2 ^ (min y.toNat k.bits) := Int.pow_pos (by omega)
    have e : x.fdiv (2 ^ (min y.toNat k.bits)) = x / 2 ^ (min y.toNat k.bits) := Int.fdiv_eq_ediv_of_nonneg _ (by omega)
    refine ⟨.int k (x / 2 ^ (min y.toNat k.bits)), relI_mk ?_, ?_⟩
    · have a := lo_le k
      have b := hi_ge k
      by_cases hn : 0 ≤ x
      · have b1 : 0 ≤ x / 2 ^ (min y.toNat k.bits) := Int.ediv_nonneg hn (by omega)
        have b2 : x / 2 ^ (min y.toNat k.bits) ≤ x := Int.ediv_le_self _ hn
        exact ⟨by omega, by omega⟩
      · have b1 : x / 2 ^ (min y.toNat k.bits) < 0 := Int.ediv_neg_of_neg_of_pos (by omega) hp
        have b2 : x ≤ x / 2 ^ (min y.toNat k.bits) := by
          rw [Int.le_ediv_iff_mul_le hp]
          have : x * 2 ^ (min y.toNat k.bits) ≤ x * 1 := Int.mul_le_mul_of_nonpos_left (by omega) (by omega)
          omega
        exact ⟨by omega, by omega⟩
    · simp only [bin, eqGuard_at_int, binOp_shr, Op.shift, if_neg (show ¬ y < 0 by omega)]
      rw [← e]
      rfl
  | _ => exact h.elim
end
end Sx

set_option linter.all false
namespace Sx
open Go
section
variable {P : Program} {ν : Nu} {N : Nat} {w : World}
theorem toBA_inj : ∀ {xs ys : List Int}, okS xs → okS ys → toBA xs = toBA ys → xs = ys := by
  intro xs ys hx hy h
  have h : (xs.map fun x => UInt8.ofNat x.toNat) = ys.map fun x => UInt8.ofNat x.toNat := by simpa [toBA] using h
  induction xs generalizing ys with
  | nil => cases ys with
    | nil => rfl
    | cons y ys => simp at h
  | cons x xs ih => cases ys with
    | nil => simp at h
    | cons y ys =>
      simp only [List.map_cons, List.cons.injEq] at h
      have a := hx x (by simp)
      have b := hy y (by simp)
      have e : x.toNat = y.toNat := by
        have := congrArg UInt8.toNat h.1
        simp only [UInt8.toNat_ofNat'] at this
        omega
      rw [ih (fun z hz => hx z (by simp [hz])) (fun z hz => hy z (by simp [hz])) (by simp [toBA, h.2]) h.2, show x = y by omega]
theorem strEq {xs ys : List Int} (hx : okS xs) (hy : okS ys) : ((toBA xs).toList == (toBA ys).toList) = decide (xs = ys) := by
  rw [ByteArray.toList_eq, ByteArray.toList_eq]
  by_cases h : xs = ys
  · subst h; simp
  · have : (toBA xs).data.toList ≠ (toBA ys).data.toList := fun e => h (toBA_inj hx hy (by
      have e := Array.toList_inj.1 e
      cases hx : toBA xs; cases hy : toBA ys; simp_all))
    rw [decide_eq_false h]
    exact beq_eq_false_iff_ne.2 this
def sEq : Value → Value → Option Bool
  | .int k a, .int k' b => if k = k' then some (decide (a = b)) else none
  | .bool a, .bool b => some (decide (a = b))
  | .string a, .string b => some (a == b)
  | _, _ => none
def sEqs : List Value → List Value → Option Bool
  | [], [] => some true
  | x :: xs, y :: ys => match sEq x y, sEqs xs ys with
    | some b, some c => some (b && c)
    | _, _ => none
  | _, _ => none
theorem leq_sEq {x y : L} {b : Bool} (hx : x.wf) (hy : y.wf) (h : leq x y = some b) : sEq x.val y.val = some b := by
  cases x <;> cases y <;> simp only [leq] at h <;> try (cases h; done)
  · cases h; rfl
  · rename_i k a k' c
    unfold sameK at h
    split at h
    · rename_i hk
      have := of_decide_eq_true hk
      subst this
      cases h
      simp [sEq, L.val]
    · cases h
  · rename_i xs ys
    cases h
    have := strEq hx hy
    rw [← beq_toListBytes] at this
    simp [sEq, L.val, this]
theorem eqs_sEqs : ∀ {asq bs : List A} {xs ys : List Value} {b : Bool}, relAs ν N asq xs → relAs ν N bs ys → eqs asq bs = some b → sEqs xs ys = some b
  | [], [], [], [], b, _, _, h => by simpa [eqs, sEqs] using h
  | [.l x], [.l y], [v], [u], b, hx, hy, h => by
    obtain ⟨⟨⟨w1, rfl⟩, _⟩, _⟩ := hx
    obtain ⟨⟨⟨w2, rfl⟩, _⟩, _⟩ := hy
    have := leq_sEq w1 w2 h
    simp [sEqs, this]
  | .l x :: a :: asq, .l y :: bs, v :: vs, u :: us, b, hx, hy, h => by
    obtain ⟨⟨⟨w1, rfl⟩, _⟩, hx⟩ := hx
    obtain ⟨⟨⟨w2, rfl⟩, _⟩, hy⟩ := hy
    cases bs with
    | nil => simp [eqs] at h
    | cons c bs =>
      simp only [eqs] at h
      split at h
      · rename_i b1 b2 h1 h2
        cases h
        simp [sEqs, leq_sEq w1 w2 h1, eqs_sEqs hx hy h2]
      · cases h
  | [.l x], .l y :: b' :: bs, v :: vs, u :: us, b, hx, hy, h => by
    simp only [eqs] at h
    split at h
    · rename_i h2
      simp [eqs] at h2
    · cases h
  | [], _ :: _, _, _, _, _, _, h => by simp [eqs] at h
  | _ :: _, [], _, _, _, _, _, h => by simp [eqs] at h
  | [], [], _ :: _, _, _, hx, _, _ => hx.elim
  | [], [], [], _ :: _, _, _, hy, _ => hy.elim
  | _ :: _, _ :: _, [], _, _, hx, _, _ => hx.elim
  | _ :: _, _ :: _, _ :: _, [], _, _, hy, _ => hy.elim
  | .junk :: _, _ :: _, _ :: _, _ :: _, _, _, _, h => by simp [eqs] at h
  | .p .. :: _, _ :: _, _ :: _, _ :: _, _, _, _, h => by simp [eqs] at h
  | .e .. :: _, _ :: _, _ :: _, _ :: _, _, _, _, h => by simp [eqs] at h
  | .np :: _, _ :: _, _ :: _, _ :: _, _, _, _, h => by simp [eqs] at h
  | .f .. :: _, _ :: _, _ :: _, _ :: _, _, _, _, h => by simp [eqs] at h
  | .sb .. :: _, _ :: _, _ :: _, _ :: _, _, _, _, h => by simp [eqs] at h
  | .ns :: _, _ :: _, _ :: _, _ :: _, _, _, _, h => by simp [eqs] at h
  | .z :: _, _ :: _, _ :: _, _ :: _, _, _, _, h => by simp [eqs] at h
  | .fn .. :: _, _ :: _, _ :: _, _ :: _, _, _, _, h => by simp [eqs] at h
  | .o .. :: _, _ :: _, _ :: _, _ :: _, _, _, _, h => by simp [eqs] at h
  | .l _ :: _, .junk :: _, _ :: _, _ :: _, _, _, _, h => by simp [eqs] at h
  | .l _ :: _, .p .. :: _, _ :: _, _ :: _, _, _, _, h => by simp [eqs] at h
  | .l _ :: _, .e .. :: _, _ :: _, _ :: _, _, _, _, h => by simp [eqs] at h
  | .l _ :: _, .np :: _, _ :: _, _ :: _, _, _, _, h => by simp [eqs] at h
  | .l _ :: _, .f .. :: _, _ :: _, _ :: _, _, _, _, h => by simp [eqs] at h
  | .l _ :: _, .sb .. :: _, _ :: _, _ :: _, _, _, _, h => by simp [eqs] at h
  | .l _ :: _, .ns :: _, _ :: _, _ :: _, _, _, _, h => by simp [eqs] at h
  | .l _ :: _, .z :: _, _ :: _, _ :: _, _, _, _, h => by simp [eqs] at h
  | .l _ :: _, .fn .. :: _, _ :: _, _ :: _, _, _, _, h => by simp [eqs] at h
  | .l _ :: _, .o .. :: _, _ :: _, _ :: _, _, _, _, h => by simp [eqs] at h
theorem sEqs_split : ∀ {xs ys : List Value} {b : Bool} (k : Nat), sEqs xs ys = some b → ∃ c d, sEqs (xs.take k) (ys.take k) = some c ∧ sEqs (xs.drop k) (ys.drop k) = some d ∧ b = (c && d)
  | xs, ys, b, 0, h => ⟨true, b, by simp [sEqs], by simpa using h, by simp⟩
  | [], [], b, k + 1, h => ⟨true, b, by simp [sEqs], by simpa using h, by simp⟩
  | x :: xs, y :: ys, b, k + 1, h => by
    simp only [sEqs] at h
    split at h
    · rename_i b1 b2 h1 h2
      cases h
      obtain ⟨c, d, h3, h4, rfl⟩ := sEqs_split k h2
      exact ⟨b1 && c, d, by simp [sEqs, h1, h3], by simpa using h4, by simp [Bool.and_assoc]⟩
    · cases h
  | [], _ :: _, _, _ + 1, h => by simp [sEqs] at h
  | _ :: _, [], _, _ + 1, h => by simp [sEqs] at h
theorem run_isAgg_scalar {t : TypeId} {d : TypeDesc} (hu : P.underlying t = some d) (hd : d.isRow = false) : (isAgg t).run P w = .ok false w := by
  unfold isAgg
  rw [Sem.run_bind, run_underlying hu w]
  cases d <;> simp_all
theorem run_isAgg_row {t : TypeId} {d : TypeDesc} (hu : P.underlying t = some d) (hd : d.isRow = true) : (isAgg t).run P w = .ok true w := by
  unfold isAgg
  rw [Sem.run_bind, run_underlying hu w]
  cases d <;> simp_all
theorem run_size {t : TypeId} (h : (P.underlying t).isSome = true) : (Go.sizeOf t).run P w = .ok (P.cellsOf t) w := by
  unfold Program.underlying at h
  cases hq : P.info? t with
  | none => simp [hq] at h
  | some i => simp [Go.sizeOf, typeInfo, hq, Program.cellsOf]
def tagV : Value → Nat
  | .bool _ => 0
  | .int _ _ => 1
  | .string _ => 2
  | _ => 3
theorem tags_rel : ∀ {ks : List Nat} {asq : List A} {xs : List Value}, relAs ν N asq xs → tagsEq ks asq = true → (∀ k ∈ ks, k < 3) → xs.map tagV = ks
  | [], [], [], _, _, _ => rfl
  | k :: ks, a :: asq, x :: xs, h, ht, hk => by
    simp only [tagsEq, Bool.and_eq_true] at ht
    have e : k = tagA a := Nat.eq_of_beq_eq_true ht.1
    have h3 := hk k (by simp)
    have : tagV x = k := by
      rw [e] at h3 ⊢
      obtain ⟨⟨hr, _⟩, _⟩ := h
      cases a with
      | l y => obtain ⟨_, rfl⟩ := hr; cases y <;> rfl
      | _ => simp [tagA] at h3
    simp [this, tags_rel h.2 ht.2 fun k hk' => hk k (by simp [hk'])]
  | [], _ :: _, _, _, h, _ => by simp [tagsEq] at h
  | _ :: _, [], _, _, h, _ => by simp [tagsEq] at h
  | _, [], _ :: _, h, _, _ => h.elim
  | _, _ :: _, [], h, _, _ => h.elim
abbrev PlainEq (P : Program) (w : World) (n : Nat) : Prop := ∀ {t : TypeId} {ks : List Nat}, plainG P n t = some ks → ∀ (d : Nat) (xs ys : Array Value) (o : Nat) (b : Bool), n ≤ d → P.cellsOf t = ks.length →
    ((xs.toList.drop o).take ks.length).map tagV = ks → sEqs ((xs.toList.drop o).take ks.length) ((ys.toList.drop o).take ks.length) = some b →
    ∃ u v, (part t xs o).run P w = .ok u w ∧ (part t ys o).run P w = .ok v w ∧ (Op.equalIn d t u v).run P w = .ok b w
theorem fields_eq {n : Nat} (ih : PlainEq P w n) : ∀ (fs : List Field) (o : Nat) (ks : List Nat), plainF (plainG P n) P.cellsOf fs o = some ks → ∀ (d : Nat) (xs ys : Array Value) (b : Bool), n ≤ d →
    ((xs.toList.drop o).take ks.length).map tagV = ks → sEqs ((xs.toList.drop o).take ks.length) ((ys.toList.drop o).take ks.length) = some b → (Op.eqFields d xs ys fs).run P w = .ok b w
  | [], o, ks, h, d, xs, ys, b, _, _, hs => by
    simp only [plainF] at h
    cases h
    simp [sEqs] at hs
    subst hs
    simp [Op.eqFields]
  | f :: fs, o, ks, h, d, xs, ys, b, hd, ht, hs => by
    simp only [plainF] at h
    split at h
    · rename_i k1 h1
      split at h
      · rename_i k2 hc h2
        cases h
        simp only [Bool.and_eq_true, Bool.not_eq_true', Nat.beq_eq_true_eq] at hc
        obtain ⟨ho, hsz, hn⟩ := hc
        have ho := Nat.eq_of_beq_eq_true ho
        have hsz := Nat.eq_of_beq_eq_true hsz
        have hn' : f.name ≠ "_" := by simpa using hn
        obtain ⟨c, e, hc, he, rfl⟩ := sEqs_split k1.length hs
        simp only [List.take_take, List.drop_take, List.drop_drop, List.length_append, Nat.add_sub_cancel_left, Nat.min_eq_left (Nat.le_add_right k1.length k2.length)] at hc he
        have ht1 : ((xs.toList.drop o).take k1.length).map tagV = k1 := by
          have := congrArg (List.take k1.length) ht
          simpa [← List.map_take, List.take_take] using this
        have ht2 : ((xs.toList.drop (o + k1.length)).take k2.length).map tagV = k2 := by
          have := congrArg (List.drop k1.length) ht
          simpa [← List.map_drop, List.drop_take, List.drop_drop] using this
        obtain ⟨u, v, p1, p2, p3⟩ := ih h1 d xs ys o c hd hsz ht1 hc
        have p4 := fields_eq ih fs (o + k1.length) k2 h2 d xs ys e hd ht2 he
        rw [← ho] at p1 p2
        simp only [Op.eqFields, if_pos hn', Sem.run_bind, p1, p2, p3, Result.andThen_ok]
        cases c
        · simp
        · simpa using p4
      · cases h
    · cases h
theorem items_eq {n : Nat} (ih : PlainEq P w n) {e : TypeId} {ks : List Nat} (hks : plainG P n e = some ks) (hsz : P.cellsOf e = ks.length) : ∀ (m i : Nat) (d : Nat) (xs ys : Array Value) (b : Bool), n ≤ d →
    ((xs.toList.drop (i * ks.length)).take (m * ks.length)).map tagV = (List.replicate m ks).flatten → sEqs ((xs.toList.drop (i * ks.length)).take (m * ks.length)) ((ys.toList.drop (i * ks.length)).take (m * ks.length)) = some b →
    (Op.eqItems d e (P.cellsOf e) xs ys (List.range' i m)).run P w = .ok b w
  | 0, i, d, xs, ys, b, _, _, hs => by
    simp [sEqs] at hs
    subst hs
    simp [Op.eqItems]
  | m + 1, i, d, xs, ys, b, hd, ht, hs => by
    obtain ⟨c, e', hc, he, rfl⟩ := sEqs_split ks.length hs
    have e1 : (m + 1) * ks.length = ks.length + m * ks.length := by rw [Nat.succ_mul, Nat.add_comm]
    have e2 : (i + 1) * ks.length = i * ks.length + ks.length := Nat.succ_mul _ _
    simp only [e1, List.take_take, List.drop_take, List.drop_drop, Nat.add_sub_cancel_left, Nat.min_eq_left (Nat.le_add_right ks.length (m * ks.length))] at hc he
    have ht1 : ((xs.toList.drop (i * ks.length)).take ks.length).map tagV = ks := by
      have := congrArg (List.take ks.length) ht
      rw [List.replicate_succ, List.flatten_cons, List.take_left, ← List.map_take, List.take_take, e1, Nat.min_eq_left (Nat.le_add_right _ _)] at this
      exact this
    have ht2 : ((xs.toList.drop ((i + 1) * ks.length)).take (m * ks.length)).map tagV = (List.replicate m ks).flatten := by
      have := congrArg (List.drop ks.length) ht
      rw [List.replicate_succ, List.flatten_cons, List.drop_left, ← List.map_drop, List.drop_take, List.drop_drop, e1, Nat.add_sub_cancel_left, ← e2] at this
      exact this
    obtain ⟨u, v, p1, p2, p3⟩ := ih hks d xs ys (i * ks.length) c hd hsz ht1 hc
    have p4 := items_eq ih hks hsz m (i + 1) d xs ys e' hd ht2 (by rw [e2]; exact he)
    rw [List.range'_succ]
    rw [← hsz] at p1 p2
    simp only [Op.eqItems, Sem.run_bind, p1, p2, p3, Result.andThen_ok]
    cases c
    · simp
    · simpa using p4
theorem plain_eq : ∀ (n : Nat) {t : TypeId} {ks : List Nat}, plainG P n t = some ks → ∀ (d : Nat) (xs ys : Array Value) (o : Nat) (b : Bool), n ≤ d → P.cellsOf t = ks.length →
    ((xs.toList.drop o).take ks.length).map tagV = ks → sEqs ((xs.toList.drop o).take ks.length) ((ys.toList.drop o).take ks.length) = some b →
    ∃ u v, (part t xs o).run P w = .ok u w ∧ (part t ys o).run P w = .ok v w ∧ (Op.equalIn d t u v).run P w = .ok b w
  | 0, _, _, h => by simp [plainG] at h
  | n + 1, t, ks, h => by
    intro d xs ys o b hd hk htag hs
    obtain ⟨d, rfl⟩ : ∃ m, d = m + 1 := ⟨d - 1, by omega⟩
    have scalar : ∀ {de : TypeDesc} {k : Nat}, P.underlying t = some de → de.isRow = false → ks = [k] → (∀ u v c, sEq u v = some c → tagV u = k → (Op.equalIn (d + 1) t u v).run P w = .ok c w) →
        ∃ u v, (part t xs o).run P w = .ok u w ∧ (part t ys o).run P w = .ok v w ∧ (Op.equalIn (d + 1) t u v).run P w = .ok b w := by
      intro de k hu hr h1 heq
      subst h1
      simp only [List.length_cons, List.length_nil, Nat.zero_add] at htag hs
      cases ex : xs.toList.drop o with
      | nil => simp [ex] at htag
      | cons x xr =>
        cases ey : ys.toList.drop o with
        | nil => simp [ex, ey, sEqs] at hs
        | cons y yr =>
          simp only [ex, ey, List.take_succ_cons, List.take_zero, sEqs, List.map_cons, List.map_nil, List.cons.injEq, and_true] at htag hs
          have e1 : xs[o]? = some x := by
            have := congrArg List.head? ex
            simpa using this
          have e2 : ys[o]? = some y := by
            have := congrArg List.head? ey
            simpa using this
          cases hq : sEq x y with
          | none => simp [hq] at hs
          | some c =>
            simp [hq] at hs
            subst hs
            exact ⟨x, y, by simp [part, run_isAgg_scalar hu hr, e1], by simp [part, run_isAgg_scalar hu hr, e2], heq _ _ _ hq htag⟩
    simp only [plainG] at h
    split at h
    · rename_i hu
      cases h
      refine scalar hu rfl rfl fun u v c hc ht => ?_
      cases u <;> simp [tagV] at ht
      cases v <;> simp [sEq] at hc
      subst hc
      simp [Op.equalIn, run_underlying hu, Bool.beq_eq_decide_eq]
    · rename_i k hu
      cases h
      refine scalar hu rfl rfl fun u v c hc ht => ?_
      cases u <;> simp [tagV] at ht
      cases v <;> simp [sEq] at hc
      obtain ⟨h1, h2⟩ := hc
      subst h1 h2
      simp [Op.equalIn, run_underlying hu, Bool.beq_eq_decide_eq]
    · rename_i hu
      cases h
      refine scalar hu rfl rfl fun u v c hc ht => ?_
      cases u <;> simp [tagV] at ht
      cases v <;> simp [sEq] at hc
      subst hc
      simp [Op.equalIn, run_underlying hu]
    · rename_i fs hu
      split at h
      · rename_i hst
        have hfs : P.fieldsOf t = fs := by simp [Program.fieldsOf, hu]
        refine ⟨.agg (xs.extract o (o + P.cellsOf t)), .agg (ys.extract o (o + P.cellsOf t)), ?_, ?_, ?_⟩
        · simp [part, run_isAgg_row hu rfl, run_size (P := P) (w := w) (t := t) (by simp [hu])]
        · simp [part, run_isAgg_row hu rfl, run_size (P := P) (w := w) (t := t) (by simp [hu])]
        · rw [run_equalIn_struct (P := P) w d t _ _ (by rw [hfs]; exact hu) hst, hfs]
          refine fields_eq (fun h => plain_eq n h) fs.toList 0 ks h d _ _ b (by omega) ?_ ?_
          · rw [hk]; simpa [List.take_take] using htag
          · rw [hk]; simpa [List.take_take] using hs
      · cases h
    · rename_i m e hu
      split at h
      · rename_i ke hke hinfo
        split at h
        · rename_i hsz
          cases h
          have hsz := Nat.eq_of_beq_eq_true hsz
          obtain ⟨i, hi⟩ := Option.isSome_iff_exists.1 hinfo
          have hfl : ((List.replicate m ke).flatten).length = m * ke.length := by simp
          refine ⟨.agg (xs.extract o (o + P.cellsOf t)), .agg (ys.extract o (o + P.cellsOf t)), ?_, ?_, ?_⟩
          · simp [part, run_isAgg_row hu rfl, run_size (P := P) (w := w) (t := t) (by simp [hu])]
          · simp [part, run_isAgg_row hu rfl, run_size (P := P) (w := w) (t := t) (by simp [hu])]
          · rw [run_equalIn_array (P := P) w d _ _ hu hi, List.range_eq_range']
            rw [hfl] at htag hs hk
            refine items_eq (fun h => plain_eq n h) hke hsz m 0 d _ _ b (by omega) ?_ ?_
            · rw [hk]; simpa [List.take_take] using htag
            · rw [hk]; simpa [List.take_take] using hs
        · cases h
      · cases h
    · cases h
theorem plainF_lt {f : TypeId → Option (List Nat)} {size : TypeId → Nat} (hf : ∀ t ks, f t = some ks → ∀ k ∈ ks, k < 3) : ∀ (fs : List Field) (o : Nat) (ks : List Nat), plainF f size fs o = some ks → ∀ k ∈ ks, k < 3
  | [], o, ks, h => by simp only [plainF] at h; cases h; simp
  | fd :: fs, o, ks, h => by
    simp only [plainF] at h
    split at h
    · rename_i k1 h1
      split at h
      · rename_i k2 hc h2
        cases h
        intro k hk
        rcases List.mem_append.1 hk with hk | hk
        · exact hf _ _ h1 k hk
        · exact plainF_lt hf fs _ _ h2 k hk
      · cases h
    · cases h
theorem plainG_lt : ∀ (n : Nat) (t : TypeId) (ks : List Nat), plainG P n t = some ks → ∀ k ∈ ks, k < 3
  | 0, _, _, h => by simp [plainG] at h
  | n + 1, t, ks, h => by
    simp only [plainG] at h
    split at h
    · cases h; simp
    · cases h; simp
    · cases h; simp
    · split at h
      · exact plainF_lt (plainG_lt n) _ _ _ h
      · cases h
    · split at h
      · rename_i ke hke _
        split at h
        · cases h
          intro k hk
          obtain ⟨l, hl, hkl⟩ := List.mem_flatten.1 hk
          rw [List.eq_of_mem_replicate hl] at hkl
          exact plainG_lt n _ _ hke k hkl
        · cases h
      · cases h
    · cases h
theorem sEqs_length : ∀ {xs ys : List Value} {b : Bool}, sEqs xs ys = some b → xs.length = ys.length := by
  intro xs
  induction xs with
  | nil => intro ys b h; cases ys with
    | nil => rfl
    | cons y ys => simp [sEqs] at h
  | cons x xs ih => intro ys b h; cases ys with
    | nil => simp [sEqs] at h
    | cons y ys =>
      simp only [sEqs] at h
      split at h
      · rename_i h2
        simp [ih h2]
      · cases h
theorem run_equal_agg {t : TypeId} {asq bs : List A} {xs ys : Array Value} {b : Bool} (hx : relAs ν N asq xs.toList) (hy : relAs ν N bs ys.toList) (hp : plainB P t asq = true) (he : eqs asq bs = some b) :
    (Op.equal t (.agg xs) (.agg ys)).run P w = .ok b w := by
  have hs := eqs_sEqs hx hy he
  have hl3 := sEqs_length hs
  unfold plainB at hp
  split at hp
  · rename_i fs hu hst hgu
    split at hp
    · rename_i ks hks
      have htag := tags_rel hx hp (plainF_lt (plainG_lt 8) _ _ _ hks)
      have hl : xs.toList.length = ks.length := by have := congrArg List.length htag; simpa using this
      have hfs : P.fieldsOf t = fs := by simp [Program.fieldsOf, hu]
      show (Op.equalIn (9999 + 1) t _ _).run P w = _
      rw [run_equalIn_struct (P := P) w 9999 t _ _ (by rw [hfs]; exact hu) hst, hfs]
      refine fields_eq (fun h => plain_eq 8 h) fs.toList 0 ks hks 9999 _ _ b (by omega) ?_ ?_
      · rw [List.drop_zero, List.take_of_length_le (by omega)]; exact htag
      · rw [List.drop_zero, List.drop_zero, List.take_of_length_le (by omega), List.take_of_length_le (by omega)]; exact hs
    · cases hp
  · rename_i m e hu hgu
    split at hp
    · rename_i ks hks
      have htag := tags_rel hx hp (plainG_lt 8 _ _ hks)
      have hl : xs.toList.length = ks.length := by have := congrArg List.length htag; simpa using this
      simp only [plainG, hu] at hks
      split at hks
      · rename_i ke hke hinfo
        split at hks
        · rename_i hsz
          cases hks
          have hsz := Nat.eq_of_beq_eq_true hsz
          obtain ⟨i, hi⟩ := Option.isSome_iff_exists.1 hinfo
          have hfl : ((List.replicate m ke).flatten).length = m * ke.length := by simp
          rw [hfl] at hl
          show (Op.equalIn (9999 + 1) t _ _).run P w = _
          rw [run_equalIn_array (P := P) w 9999 _ _ hu hi, List.range_eq_range']
          refine items_eq (fun h => plain_eq 7 h) hke hsz m 0 9999 _ _ b (by omega) ?_ ?_
          · rw [Nat.zero_mul, List.drop_zero, List.take_of_length_le (by omega)]; exact htag
          · rw [Nat.zero_mul, List.drop_zero, List.drop_zero, List.take_of_length_le (by omega), List.take_of_length_le (by omega)]; exact hs
        · cases hks
      · cases hks
    · cases hp
  · cases hp
theorem guard_agg {op : BinOp} {t : TypeId} {asq : List A} {xo yo : Operand} {xs ys : Array Value} (hp : plainB P t asq = true) : (eqGuard op t xo yo (.agg xs) (.agg ys)).run P w = .ok () w := by
  unfold plainB at hp
  split at hp
  · rename_i fs hu hst hgu
    exact run_eqGuard_agg w op t xo yo xs ys hgu
  · rename_i m e hu hgu
    exact run_eqGuard_agg w op t xo yo xs ys hgu
  · cases hp
theorem onlyIf_out {c : Bool} {x : Fl} {r : R} (h : (onlyIf c x).Out r) : c = true ∧ x.Out r := by
  cases c
  · exact h.elim
  · exact ⟨rfl, h⟩
theorem run_eqIn_bool (d : Nat) {t : TypeId} {a b : Bool} (hu : P.underlying t = some .bool) : (Op.equalIn (d + 1) t (.bool a) (.bool b)).run P w = .ok (decide (a = b)) w := by
  simp [Op.equalIn, run_underlying hu, Bool.beq_eq_decide_eq]
theorem run_eq_bool {t : TypeId} {a b : Bool} (h : isBoolT P t = true) : (Op.equal t (.bool a) (.bool b)).run P w = .ok (decide (a = b)) w := by
  unfold isBoolT at h
  split at h
  · rename_i hu
    exact run_eqIn_bool 9999 hu
  · cases h
theorem run_eqIn_ptr (d : Nat) {t e : TypeId} {a : Option Addr} (hu : P.underlying t = some (.pointer e)) : (Op.equalIn (d + 1) t (.pointer a) (.pointer none)).run P w = .ok a.isNone w := by
  cases a <;> simp [Op.equalIn, run_underlying hu]
theorem run_eq_ptr {t : TypeId} {a : Option Addr} (h : isPtrT P t = true) : (Op.equal t (.pointer a) (.pointer none)).run P w = .ok a.isNone w := by
  unfold isPtrT at h
  split at h
  · rename_i hu
    exact run_eqIn_ptr 9999 hu
  · cases h
theorem binop_sound {op : BinOp} {t : TypeId} {xo yo : Operand} {x y r : R} {u v : Value} (hx : relR ν N x u) (hy : relR ν N y v) (h : (binop P op t x y).Out r) :
    ∃ z, relR ν N r z ∧ (bin op t xo yo u v).run P w = .ok z w := by
  unfold binop at h
  split at h
  · obtain ⟨hr, rfl⟩ := relI hx
    obtain ⟨_, rfl⟩ := relI hy
    exact shift_sound hr h
  · obtain ⟨hr, rfl⟩ := relI hx
    obtain ⟨_, rfl⟩ := relI hy
    exact shift_sound hr h
  · obtain ⟨hr, rfl⟩ := relI hx
    obtain ⟨_, rfl⟩ := relI hy
    split at h
    · rename_i hk
      have := of_decide_eq_true hk
      subst this
      exact arith_sound hr h
    · exact h.elim
  · obtain ⟨_, rfl⟩ := hx
    obtain ⟨_, rfl⟩ := hy
    obtain ⟨ht, h⟩ := onlyIf_out h
    cases h
    exact ⟨_, relB_mk _, by simp [bin, L.val, eqGuard_at_bool, binOp, run_eq_bool ht]⟩
  · obtain ⟨_, rfl⟩ := hx
    obtain ⟨_, rfl⟩ := hy
    obtain ⟨ht, h⟩ := onlyIf_out h
    cases h
    exact ⟨_, relB_mk _, by simp [bin, L.val, eqGuard_at_bool, binOp, run_eq_bool ht]⟩
  · obtain ⟨hx, rfl⟩ := hx
    obtain ⟨hy, rfl⟩ := hy
    cases h
    exact ⟨_, relB_mk _, by simp [bin, L.val, eqGuard_at_string, binOp, Op.stringOp, strEq hx hy]⟩
  · obtain ⟨hx, rfl⟩ := hx
    obtain ⟨hy, rfl⟩ := hy
    cases h
    exact ⟨_, relB_mk _, by simp [bin, L.val, eqGuard_at_string, binOp, Op.stringOp, strEq hx hy]⟩
  · obtain ⟨hx, rfl⟩ := hx
    obtain ⟨hy, rfl⟩ := hy
    obtain ⟨hl, h⟩ := h
    cases h
    refine ⟨_, ⟨fun c hc => (List.mem_append.1 hc).elim (hx c) (hy c), rfl⟩, ?_⟩
    rename_i xs ys
    have hsum := run_string_add_sum (P := P) (w := w) (toBA xs) (toBA ys) (by simpa [toBA, ByteArray.size] using hl)
    have e : toBA xs ++ toBA ys = toBA (xs ++ ys) := by
      apply ByteArray.ext
      simp [toBA, ByteArray.data_append]
    rw [e] at hsum
    simp [bin, L.val, eqGuard_at_string, binOp, hsum]
  · cases hx; cases hy
    obtain ⟨ht, h⟩ := onlyIf_out h
    cases h
    exact ⟨_, relB_mk _, by simp [bin, eqGuard_at_pointer, binOp, run_eq_ptr ht]⟩
  · cases hx; cases hy
    obtain ⟨ht, h⟩ := onlyIf_out h
    cases h
    exact ⟨_, relB_mk _, by simp [bin, eqGuard_at_pointer, binOp, run_eq_ptr ht]⟩
  · obtain ⟨_, rfl⟩ := hx; cases hy
    obtain ⟨ht, h⟩ := onlyIf_out h
    cases h
    exact ⟨_, relB_mk _, by simp [bin, eqGuard_at_pointer, binOp, run_eq_ptr ht]⟩
  · obtain ⟨_, rfl⟩ := hx; cases hy
    obtain ⟨ht, h⟩ := onlyIf_out h
    cases h
    exact ⟨_, relB_mk _, by simp [bin, eqGuard_at_pointer, binOp, run_eq_ptr ht]⟩
  · obtain ⟨_, _, _, _, _, _, _, rfl⟩ := hx; cases hy
    obtain ⟨ht, h⟩ := onlyIf_out h
    cases h
    exact ⟨_, relB_mk _, by simp [bin, eqGuard_at_pointer, binOp, run_eq_ptr ht]⟩
  · obtain ⟨_, _, _, _, _, _, _, rfl⟩ := hx; cases hy
    obtain ⟨ht, h⟩ := onlyIf_out h
    cases h
    exact ⟨_, relB_mk _, by simp [bin, eqGuard_at_pointer, binOp, run_eq_ptr ht]⟩
  · obtain ⟨us, rfl, hx⟩ := hx
    obtain ⟨vs, rfl, hy⟩ := hy
    split at h
    · rename_i b hp he
      cases h
      exact ⟨_, relB_mk _, by simp [bin, guard_agg hp, binOp, run_equal_agg hx hy hp he]⟩
    · exact h.elim
  · obtain ⟨us, rfl, hx⟩ := hx
    obtain ⟨vs, rfl, hy⟩ := hy
    split at h
    · rename_i b hp he
      cases h
      exact ⟨_, relB_mk _, by simp [bin, guard_agg hp, binOp, run_equal_agg hx hy hp he]⟩
    · exact h.elim
  · exact h.elim
end
end Sx

set_option linter.all false
namespace Sx
open Go
section
variable {P : Program} {ν : Nu} {N : Nat} {w : World}
theorem run_size1 {e : TypeId} (h : inB 1 (P.cellsOf e) = true) : (Go.sizeOf e).run P w = .ok (P.cellsOf e) w := by
  have h := Nat.le_of_ble_eq_true h
  cases hq : P.info? e with
  | none => simp [Program.cellsOf, hq] at h
  | some i => simp [Go.sizeOf, typeInfo, hq, Program.cellsOf]
theorem info_size {e : TypeId} (h : 1 ≤ P.cellsOf e) : (P.info? e).map (·.size) = some (P.cellsOf e) := by
  cases hq : P.info? e with
  | none => simp [Program.cellsOf, hq] at h
  | some i => simp [Program.cellsOf, hq]
theorem elem_slice {t e : TypeId} (h : P.underlying t = some (.slice e)) : P.elem t = e := by simp [Program.elem, h]
theorem elem_array {t e : TypeId} {n : Nat} (h : P.underlying t = some (.array n e)) : P.elem t = e ∧ P.arrayLen t = n := by simp [Program.elem, Program.arrayLen, h]
theorem toAddr (a : Addr) (h : a.spot = none) (n : Nat) : a.add n = ⟨a.block, a.off + n, none⟩ := by
  cases a with
  | mk b o s => cases h; exact Addr.add_mid b o n
theorem among_out {i : Int} {f : Nat → Fl} {r : R} : ∀ {n j : Nat}, (among i f n j).Out r → ∃ k, j ≤ k ∧ k < j + n ∧ i = (k : Int) ∧ (f k).Out r
  | 0, _, h => h.elim
  | n + 1, j, h => by
    simp only [among, Fl.Out] at h
    split at h
    · rename_i hd
      exact ⟨j, Nat.le_refl _, by omega, of_decide_eq_true hd, h⟩
    · obtain ⟨k, h1, h2, h3, h4⟩ := among_out h
      exact ⟨k, by omega, by omega, h3, h4⟩
theorem spotless {a : Addr} (h : a.spot = none) : a = ⟨a.block, a.off, none⟩ := by cases a; cases h; rfl
theorem run_index_row {t e : TypeId} {a : Addr} {n cap : Nat} {k : IntKind} {i : Int} (hu : P.underlying t = some (.slice e)) (hs : inB 1 (P.cellsOf e) = true) (ha : a.spot = none) (h : 0 ≤ i ∧ i < (n : Int)) :
    (Instr.indexAt t (.slice (some a) n cap) (.int k i)).run P w = .ok (.pointer (some ⟨a.block, a.off + i.toNat * P.cellsOf e, none⟩)) w := by
  rw [run_indexAt_slice (P := P) (w := w) t a n cap k i (by rw [elem_slice hu]; exact hu), if_pos h, elem_slice hu, run_size1 hs]
  simp [toAddr a ha]
theorem run_index_arr {t e : TypeId} {a : Addr} {n j : Nat} {k : IntKind} (hu : P.underlying t = some (.array n e)) (hs : inB 1 (P.cellsOf e) = true) (ha : a.spot = none) (h : j < n) :
    (Instr.indexAt t (.pointer (some a)) (.int k j)).run P w = .ok (.pointer (some ⟨a.block, a.off + j * P.cellsOf e, none⟩)) w := by
  obtain ⟨e1, e2⟩ := elem_array hu
  rw [run_indexAt_array (P := P) (w := w) t a k j (by rw [e1, e2]; exact hu), if_pos (by rw [e2]; omega), e1, run_size1 hs]
  simp [toAddr a ha]
theorem indexAddr_sound {t : TypeId} {x i r : R} {u v : Value} (hx : relR ν N x u) (hi : relR ν N i v) (h : (indexAddr P t x i).Out r) :
    ∃ z, relR ν N r z ∧ (Instr.indexAt t u v).run P w = .ok z w := by
  unfold indexAddr at h
  split at h
  · rename_i e l n k i hu
    obtain ⟨hs, ⟨h0, h1⟩, h2⟩ := onlyIf_out h
    cases h2
    obtain ⟨_, rfl⟩ := relI hi
    obtain ⟨hl, rfl, base, cap, hsv, hnc, hsp, hnn⟩ := hx
    cases base with
    | none => have := hnn rfl; omega
    | some a =>
      have ha := hsp a rfl
      rw [hsv]
      exact ⟨_, ⟨hl, a.block, a.off, n, cap, by rw [hsv, ← spotless ha], by omega, rfl⟩, run_index_row hu hs ha ⟨h0, h1⟩⟩
  · rename_i e l z a b k i hu
    obtain ⟨hs, ⟨h0, h1⟩, h2⟩ := onlyIf_out h
    cases h2
    simp only [Bool.and_eq_true] at hs
    obtain ⟨hs, hz⟩ := hs
    have hz := Nat.eq_of_beq_eq_true hz
    subst hz
    obtain ⟨_, rfl⟩ := relI hi
    obtain ⟨hl, base, n, cap, base', hsv, hab, hbn, ⟨hnc, hsp, hnn⟩, rfl, hba, hok'⟩ := hx
    have hac : a < cap := by omega
    have hba := hba (.inl hac)
    cases base with
    | none => have := hnn rfl; omega
    | some x =>
      have ha := hsp x rfl
      subst hba
      refine ⟨_, ⟨hl, x.block, x.off, n, cap, by rw [hsv, ← spotless ha], by omega, rfl⟩, ?_⟩
      rw [show addA (some x) (a * P.cellsOf e) = some ⟨x.block, x.off + a * P.cellsOf e, none⟩ from rfl, run_index_row hu hs rfl ⟨h0, h1⟩]
      rw [Nat.add_mul, Nat.add_assoc]
      rfl
  · rename_i n e l o k i hu
    obtain ⟨hs, h⟩ := onlyIf_out h
    obtain ⟨j, _, h2, rfl, h4⟩ := among_out h
    cases h4
    obtain ⟨_, rfl⟩ := relI hi
    obtain ⟨hl, rfl⟩ := hx
    exact ⟨_, ⟨hl, rfl⟩, run_index_arr hu hs rfl (by omega)⟩
  · rename_i n e l z m o k i hu
    obtain ⟨hs, h⟩ := onlyIf_out h
    obtain ⟨j, _, h2, rfl, h4⟩ := among_out h
    cases h4
    obtain ⟨_, rfl⟩ := relI hi
    obtain ⟨hl, b, off, q, cap, hsv, hm, rfl⟩ := hx
    refine ⟨_, ⟨hl, b, off, q, cap, hsv, hm, ?_⟩, run_index_arr hu hs rfl (by omega)⟩
    simp [Nat.add_assoc]
  · exact h.elim
theorem slice_run {t e : TypeId} {base : Option Addr} {n cap : Nat} {low high : Option Value} {a b : Nat} (hu : P.underlying t = some (.slice e)) (hs : inB 1 (P.cellsOf e) = true)
    (hl : (low = none ∧ a = 0) ∨ ∃ k, low = some (.int k a)) (hh : (high = none ∧ b = n) ∨ ∃ k, high = some (.int k b)) (hab : a ≤ b) (hbc : b ≤ cap) :
    (Instr.sliceAt t (.slice base n cap) low high none).run P w = .ok (sliced base a b cap (P.cellsOf e)) w := by
  have he := elem_slice hu
  have hu' : P.underlying t = some (.slice (P.elem t)) := by rw [he]; exact hu
  rw [run_sliceAt_slice (P := P) (w := w) t _ _ _ _ hu']
  rcases hl with ⟨rfl, rfl⟩ | ⟨k, rfl⟩ <;> rcases hh with ⟨rfl, rfl⟩ | ⟨k', rfl⟩
  · rw [run_slice_all (P := P) (w := w) t base b cap hu', he, run_size1 hs]; rfl
  · rw [run_slice_h (P := P) (w := w) t base n cap hu' k' b (by omega) (by omega), he, run_size1 hs]; simp
  · rw [run_slice_l (P := P) (w := w) t base b cap hu' k a (by omega) (by omega), he, run_size1 hs]; simp
  · rw [run_slice_lh (P := P) (w := w) t base n cap hu' k k' a b (by omega) (by omega) (by omega), he, run_size1 hs]; simp
theorem rel_sliced {l z a b lo hi n cap : Nat} {base base' : Option Addr} (hl : l < N) (hsv : ν.sv l = .slice base n cap) (hbn : b ≤ n) (hok : okSl base n cap) (hba : a < cap ∨ a = 0 → base' = addA base (a * z)) (hok' : okSl base' (b - a) (cap - a))
    (hab : a ≤ b) (h1 : lo ≤ hi) (h2 : hi ≤ b - a) : relA ν N (.sb l z (a + lo) (a + hi)) (sliced base' lo hi (cap - a) z) := by
  obtain ⟨h3, h4, h5⟩ := hok'
  obtain ⟨h6, h7, h8⟩ := hok
  refine ⟨hl, base, n, cap, _, hsv, by omega, by omega, ⟨h6, h7, h8⟩, by simp only [sliced]; congr 1 <;> omega, ?_, ?_⟩
  · intro hc
    rcases hc with hc | hc
    · rw [if_neg (by omega), hba (by omega)]
      cases base with
      | none => rfl
      | some x =>
        show some ((⟨x.block, x.off + a * z, none⟩ : Addr).add (lo * z)) = some ⟨x.block, x.off + (a + lo) * z, none⟩
        rw [Addr.add_mid, Nat.add_mul, Nat.add_assoc]
    · have h0 : a = 0 := by omega
      have h0' : lo = 0 := by omega
      subst h0
      subst h0'
      rw [hba (.inr rfl)]
      cases base with
      | none => simp [addA]
      | some x =>
        show (if _ then some (⟨x.block, x.off + 0 * z, none⟩ : Addr) else some ((⟨x.block, x.off + 0 * z, none⟩ : Addr).add (0 * z))) = some ⟨x.block, x.off + (0 + 0) * z, none⟩
        rw [Addr.add_mid]
        simp
  · refine ⟨by omega, ?_, ?_⟩
    · intro x hx
      split at hx
      · exact h4 x hx
      · cases base' with
        | none => cases hx
        | some y =>
          cases hx
          show (y.add (lo * z)).spot = none
          rw [toAddr y (h4 y rfl)]
    · intro hx
      split at hx
      · have := h5 hx; omega
      · cases base' with
        | none => have := h5 rfl; omega
        | some y => cases hx
theorem rel_sliced0 {l z lo hi n cap : Nat} {base : Option Addr} (hl : l < N) (hsv : ν.sv l = .slice base n cap) (hok : okSl base n cap) (h1 : lo ≤ hi) (h2 : hi ≤ n) :
    relA ν N (.sb l z lo hi) (sliced base lo hi cap z) := by
  have := rel_sliced (ν := ν) (N := N) (l := l) (z := z) (a := 0) (b := n) (lo := lo) (hi := hi) (base := base) (base' := base) hl hsv (Nat.le_refl _) hok (fun _ => by
    cases base with
    | none => rfl
    | some x => simp [addA]; exact spotless (hok.2.1 x rfl)) (by simpa using hok) (Nat.zero_le _) h1 (by simpa using h2)
  simpa using this
theorem elemT_some {t e : TypeId} (h : elemT P t = some e) : P.underlying t = some (.slice e) := by
  unfold elemT at h
  split at h
  · rename_i e' hu
    cases h
    exact hu
  · cases h
theorem slice_sound {t : TypeId} {x r : R} {low high : Option R} {u : Value} {lv hv : Option Value} (hx : relR ν N x u) (hl : match low, lv with | none, none => True | some l, some v => relR ν N l v | _, _ => False)
    (hh : match high, hv with | none, none => True | some l, some v => relR ν N l v | _, _ => False) (h : (slice P t x low high).Out r) :
    ∃ z, relR ν N r z ∧ (Instr.sliceAt t u lv hv none).run P w = .ok z w := by
  unfold slice at h
  split at h
  · exact h.elim
  rename_i e he
  have hu := elemT_some he
  have hs := (onlyIf_out h).1
  replace h := (onlyIf_out h).2
  split at h
  · rename_i l n k i
    obtain ⟨⟨h0, h1⟩, h2⟩ := h
    cases h2
    cases lv with
    | none => exact hl.elim
    | some lv =>
      cases hv with
      | some _ => exact hh.elim
      | none =>
        obtain ⟨_, rfl⟩ := relI hl
        obtain ⟨hl, rfl, base, cap, hsv, hok⟩ := hx
        rw [hsv]
        refine ⟨_, rel_sliced0 hl hsv hok (lo := i.toNat) (hi := n) (by omega) (Nat.le_refl _), slice_run hu hs (.inr ⟨k, by rw [Int.toNat_of_nonneg h0]⟩) (.inl ⟨rfl, rfl⟩) (by omega) hok.1.1⟩
  · rename_i l n k j
    obtain ⟨⟨h0, h1⟩, h2⟩ := h
    cases h2
    cases lv with
    | some _ => exact hl.elim
    | none =>
      cases hv with
      | none => exact hh.elim
      | some hv =>
        obtain ⟨_, rfl⟩ := relI hh
        obtain ⟨hl, rfl, base, cap, hsv, hok⟩ := hx
        rw [hsv]
        have := hok.1
        refine ⟨_, rel_sliced0 hl hsv hok (lo := 0) (hi := j.toNat) (by omega) (by omega), slice_run hu hs (.inl ⟨rfl, rfl⟩) (.inr ⟨k, by rw [Int.toNat_of_nonneg h0]⟩) (by omega) (by omega)⟩
  · rename_i l n k i k' j
    obtain ⟨⟨h0, h1, h1'⟩, h2⟩ := h
    cases h2
    cases lv with
    | none => exact hl.elim
    | some lv =>
      cases hv with
      | none => exact hh.elim
      | some hv =>
        obtain ⟨_, rfl⟩ := relI hl
        obtain ⟨_, rfl⟩ := relI hh
        obtain ⟨hl, rfl, base, cap, hsv, hok⟩ := hx
        rw [hsv]
        have := hok.1
        refine ⟨_, rel_sliced0 hl hsv hok (lo := i.toNat) (hi := j.toNat) (by omega) (by omega), slice_run hu hs (.inr ⟨k, by rw [Int.toNat_of_nonneg h0]⟩) (.inr ⟨k', by rw [Int.toNat_of_nonneg (by omega)]⟩) (by omega) (by omega)⟩
  · rename_i l z a b k i
    obtain ⟨hz, ⟨h0, h1⟩, h2⟩ := onlyIf_out h
    cases h2
    have hz := Nat.eq_of_beq_eq_true hz
    subst hz
    cases lv with
    | none => exact hl.elim
    | some lv =>
      cases hv with
      | some _ => exact hh.elim
      | none =>
        obtain ⟨_, rfl⟩ := relI hl
        obtain ⟨hl, base, n, cap, base', hsv, hab, hbn, hok, rfl, hba, hok'⟩ := hx
        have := rel_sliced hl hsv hbn hok hba hok' hab (lo := i.toNat) (hi := b - a) (by omega) (Nat.le_refl _)
        rw [show a + (b - a) = b by omega] at this
        exact ⟨_, this, slice_run hu hs (.inr ⟨k, by rw [Int.toNat_of_nonneg h0]⟩) (.inl ⟨rfl, rfl⟩) (by omega) hok'.1.1⟩
  · rename_i l z a b k j
    obtain ⟨hz, ⟨h0, h1⟩, h2⟩ := onlyIf_out h
    cases h2
    have hz := Nat.eq_of_beq_eq_true hz
    subst hz
    cases lv with
    | some _ => exact hl.elim
    | none =>
      cases hv with
      | none => exact hh.elim
      | some hv =>
        obtain ⟨_, rfl⟩ := relI hh
        obtain ⟨hl, base, n, cap, base', hsv, hab, hbn, hok, rfl, hba, hok'⟩ := hx
        have := rel_sliced hl hsv hbn hok hba hok' hab (lo := 0) (hi := j.toNat) (by omega) (by omega)
        have h9 := hok'.1
        exact ⟨_, this, slice_run hu hs (.inl ⟨rfl, rfl⟩) (.inr ⟨k, by rw [Int.toNat_of_nonneg h0]⟩) (by omega) (by omega)⟩
  · rename_i l z a b k i k' j
    obtain ⟨hz, ⟨h0, h1, h1'⟩, h2⟩ := onlyIf_out h
    cases h2
    have hz := Nat.eq_of_beq_eq_true hz
    subst hz
    cases lv with
    | none => exact hl.elim
    | some lv =>
      cases hv with
      | none => exact hh.elim
      | some hv =>
        obtain ⟨_, rfl⟩ := relI hl
        obtain ⟨_, rfl⟩ := relI hh
        obtain ⟨hl, base, n, cap, base', hsv, hab, hbn, hok, rfl, hba, hok'⟩ := hx
        have := rel_sliced hl hsv hbn hok hba hok' hab (lo := i.toNat) (hi := j.toNat) (by omega) (by omega)
        have h9 := hok'.1
        exact ⟨_, this, slice_run hu hs (.inr ⟨k, by rw [Int.toNat_of_nonneg h0]⟩) (.inr ⟨k', by rw [Int.toNat_of_nonneg (by omega)]⟩) (by omega) (by omega)⟩
  · rename_i k i
    obtain ⟨rfl, h2⟩ := h
    cases h2
    cases hx
    cases lv with
    | none => exact hl.elim
    | some lv =>
      cases hv with
      | some _ => exact hh.elim
      | none =>
        obtain ⟨_, rfl⟩ := relI hl
        exact ⟨_, rfl, slice_run (a := 0) (b := 0) hu hs (.inr ⟨k, rfl⟩) (.inl ⟨rfl, rfl⟩) (by omega) (by omega)⟩
  · rename_i k i
    obtain ⟨rfl, h2⟩ := h
    cases h2
    cases hx
    cases lv with
    | some _ => exact hl.elim
    | none =>
      cases hv with
      | none => exact hh.elim
      | some hv =>
        obtain ⟨_, rfl⟩ := relI hh
        exact ⟨_, rfl, slice_run (a := 0) (b := 0) hu hs (.inl ⟨rfl, rfl⟩) (.inr ⟨k, rfl⟩) (by omega) (by omega)⟩
  · rename_i k i k' j
    obtain ⟨⟨rfl, rfl⟩, h2⟩ := h
    cases h2
    cases hx
    cases lv with
    | none => exact hl.elim
    | some lv =>
      cases hv with
      | none => exact hh.elim
      | some hv =>
        obtain ⟨_, rfl⟩ := relI hl
        obtain ⟨_, rfl⟩ := relI hh
        exact ⟨_, rfl, slice_run (a := 0) (b := 0) hu hs (.inr ⟨k, rfl⟩) (.inr ⟨k', rfl⟩) (by omega) (by omega)⟩
  · exact h.elim
end
end Sx

set_option linter.all false
namespace Sx
open Go
section
variable {P : Program} {ν : Nu} {N : Nat} {w : World}
theorem leafs_length : ∀ (ks : List Kd) (x : Tup ks), (leafs ks x).length = ks.length
  | [], _ => rfl
  | [_], _ => rfl
  | _ :: k' :: ks, x => by simp [leafs, leafs_length (k' :: ks) x.2]
theorem flat_length (ks : List Kd) (xs : List (Tup ks)) : (flat ks xs).length = xs.length * ks.length := by
  induction xs with
  | nil => simp [flat]
  | cons x xs ih =>
    have e : flat ks (x :: xs) = (leafs ks x).map L.val ++ flat ks xs := rfl
    rw [e, List.length_append, ih, List.length_map, leafs_length, List.length_cons, Nat.succ_mul, Nat.add_comm]
theorem flat_get (ks : List Kd) : ∀ (xs : List (Tup ks)) (i j : Nat), i < xs.length → j < ks.length → (flat ks xs)[i * ks.length + j]? = ((leafs ks (xs.getD i (zT ks))).map L.val)[j]?
  | x :: xs, 0, j, _, hj => by
    have e : flat ks (x :: xs) = (leafs ks x).map L.val ++ flat ks xs := rfl
    rw [e, Nat.zero_mul, Nat.zero_add, List.getElem?_append_left (by simpa [leafs_length] using hj)]
    rfl
  | x :: xs, i + 1, j, hi, hj => by
    have e : flat ks (x :: xs) = (leafs ks x).map L.val ++ flat ks xs := rfl
    rw [e, List.getElem?_append_right (by simp only [List.length_map, leafs_length]; rw [Nat.succ_mul]; omega)]
    have e2 : (i + 1) * ks.length + j - ((leafs ks x).map L.val).length = i * ks.length + j := by
      simp only [List.length_map, leafs_length]; rw [Nat.succ_mul]; omega
    rw [e2, flat_get ks xs i j (by simpa using hi) hj]
    rfl
theorem slice_inj {a a' : Option Addr} {n n' c c' : Nat} (h : Value.slice a n c = .slice a' n' c') : a = a' ∧ n = n' ∧ c = c' := by cases h; exact ⟨rfl, rfl, rfl⟩
theorem row_cells {l : Nat} {own : Bool} {ks : List Kd} {xs : List (Tup ks)} (h : obH ν N w l (.row own ks xs)) : 0 < ks.length ∧ wfT ks xs ∧ ∃ base cap, ν.sv l = .slice base xs.length cap ∧ okSl base xs.length cap ∧
    ∀ j v, (flat ks xs)[j]? = some v → ∃ a, base = some a ∧ w.cell? (a.add j) = some v := by
  cases own with
  | false => exact ⟨h.1, h.2.1, h.2.2.2⟩
  | true =>
    obtain ⟨h1, h2, _, e, h3⟩ := h
    refine ⟨h1, h2, ?_⟩
    have hc := h3.cells (g := (ν.sv l).ownBlock.getD 0)
    rcases h3.2 with ⟨h4, h5⟩ | ⟨g, cap, cur, h4, h5, h6, h7, h8, _⟩
    · refine ⟨none, 0, by rw [h4, h5], ⟨by omega, (fun _ h => nomatch h), fun _ => rfl⟩, fun j v hv => ?_⟩
      have : xs = [] := List.eq_nil_of_length_eq_zero h5
      subst this
      simp [flat] at hv
    · refine ⟨some ⟨g, 0, none⟩, cap, h4, ⟨⟨h7, h8⟩, fun x hx => by cases hx; rfl, nofun⟩, fun j v hv => ⟨_, rfl, ?_⟩⟩
      have hb : (ν.sv l).ownBlock = some g := by rw [h4]; rfl
      rw [hb] at hc
      exact hc rfl j v hv
theorem okT_parts {t : TypeId} (h : okT P t = true) : 1 ≤ P.cellsOf t ∧ ∃ d, P.underlying t = some d := by
  unfold okT at h
  simp only [Bool.and_eq_true] at h
  exact ⟨Nat.le_of_ble_eq_true h.1, Option.isSome_iff_exists.1 h.2⟩
theorem isAggT_row {t : TypeId} {d : TypeDesc} (hu : P.underlying t = some d) : isAggT P t = d.isRow := by
  unfold isAggT
  rw [hu]
  cases d <;> rfl
theorem load_run {t : TypeId} {b o : Nat} {cs : List A} {vs : List Value} {k : Nat} (hs : relAs ν N cs vs) (ht : okT P t = true) (hk : k + P.cellsOf t ≤ cs.length)
    (hc : ∀ j v, j < P.cellsOf t → vs[k + j]? = some v → w.cell? ⟨b, o + j, none⟩ = some v) :
    ∃ z, relV ν N (partV P t cs k) z ∧ (Instr.loadAt t (.pointer (some ⟨b, o, none⟩))).run P w = .ok z w := by
  obtain ⟨h1, d, hu⟩ := okT_parts ht
  have hl := relAs_length hs
  unfold partV
  rw [isAggT_row hu]
  cases hd : d.isRow with
  | true =>
    refine ⟨.agg ((vs.drop k).take (P.cellsOf t)).toArray, ⟨_, rfl, by simpa using relAs_take (relAs_drop hs k) _⟩, ?_⟩
    refine run_loadAt_mid w b o t _ d (fun j v hv => ?_) hu hd ?_
    · rw [List.getElem?_take] at hv
      split at hv
      · rename_i hj
        rw [List.getElem?_drop] at hv
        exact hc j v hj hv
      · cases hv
    · rw [info_size h1]; simp; omega
  | false =>
    have hlt : k < vs.length := by omega
    refine ⟨vs[k], (relAs_get hs k hlt).1, ?_⟩
    have := hc 0 vs[k] (by omega) (by rw [Nat.add_zero, List.getElem?_eq_getElem hlt])
    rw [Nat.add_zero] at this
    simp [Instr.loadAt, Instr.sureAddr, loadVar, run_isAgg_scalar hu hd, Go.load, Sem.run, this]
theorem relAs_lit (ls : List L) (h : ∀ l ∈ ls, l.wf) : relAs ν N (ls.map A.l) (ls.map L.val) := by
  induction ls with
  | nil => trivial
  | cons l ls ih => exact ⟨⟨⟨h l (by simp), rfl⟩, by cases l <;> rfl⟩, ih fun x hx => h x (by simp [hx])⟩
theorem getD_mem {α : Type} {xs : List α} {i : Nat} {d : α} (h : i < xs.length) : xs.getD i d ∈ xs := by
  rw [List.getD_eq_getElem?_getD, List.getElem?_eq_getElem h]; exact List.getElem_mem h
theorem relAs_cellsAt {ks : List Kd} {xs : List (Tup ks)} {i : Nat} (hw : wfT ks xs) (h : i < xs.length) : relAs ν N (cellsAt ks xs i) ((leafs ks (xs.getD i (zT ks))).map L.val) :=
  relAs_lit _ (hw _ (getD_mem h))
theorem load_sound {H : Hp} (hH : hpH ν N w H) {t : TypeId} {x r : R} {u : Value} (hx : relR ν N x u) (h : (load P H t x).Out r) :
    ∃ z, relR ν N r z ∧ (Instr.loadAt t u).run P w = .ok z w := by
  unfold load at h
  split at h
  · rename_i l o
    obtain ⟨hl, rfl⟩ := hx
    split at h
    · rename_i cs hg
      obtain ⟨hc, h⟩ := onlyIf_out h
      cases h
      simp only [Bool.and_eq_true] at hc
      obtain ⟨_, vs, T, hb, hr⟩ := (hH.ob _ _ hg).2
      refine load_run hr hc.1 (Nat.le_of_ble_eq_true hc.2) fun j v hj hv => ?_
      rw [cell_of_row w _ _ vs T (0, 0) hb]
      simpa using hv
    · exact h.elim
  · rename_i l z i o
    obtain ⟨hl, b, off, n, cap, hsv, hi, rfl⟩ := hx
    split at h
    · rename_i own ks xs hg
      obtain ⟨hc, h⟩ := onlyIf_out h
      cases h
      simp only [Bool.and_eq_true] at hc
      obtain ⟨h1, h2, base, cap', h3, h4, h5⟩ := row_cells (hH.ob _ _ hg).2
      rw [hsv] at h3
      obtain ⟨rfl, rfl, rfl⟩ := slice_inj h3
      have hz := Nat.eq_of_beq_eq_true hc.2.1
      have hk := Nat.le_of_ble_eq_true hc.2.2
      subst hz
      have hcl : (cellsAt ks xs i).length = ks.length := by simp [cellsAt, leafs_length]
      refine load_run (relAs_cellsAt h2 hi) hc.1 (by omega) fun j v hj hv => ?_
      have := flat_get ks xs i (o + j) hi (by omega)
      obtain ⟨a, ha, hcell⟩ := h5 (i * ks.length + (o + j)) v (by rw [this]; exact hv)
      cases ha
      rw [Addr.add_mid] at hcell
      rw [show off + i * ks.length + o + j = off + (i * ks.length + (o + j)) by omega]
      exact hcell
    · rename_i z' n' cs hg
      obtain ⟨hc, h⟩ := onlyIf_out h
      cases h
      simp only [Bool.and_eq_true] at hc
      obtain ⟨_, _, e, vs, hown, hr⟩ := (hH.ob _ _ hg).2
      have hz := Nat.eq_of_beq_eq_true hc.2.1
      have hk := Nat.le_of_ble_eq_true hc.2.2
      subst hz
      have hcell := hown.cells (g := b) (by rw [hsv]; rfl)
      rcases hown.2 with ⟨h4, h5⟩ | ⟨g, cap', cur, h4, _⟩
      · rw [h4] at hsv; cases hsv
      rw [hsv] at h4
      obtain ⟨h11, rfl, rfl⟩ := slice_inj h4
      cases h11
      have hl := relAs_length hr
      have hb1 : i * z + z ≤ n * z := by rw [← Nat.succ_mul]; exact Nat.mul_le_mul_right _ hi
      have hl2 := hown.1
      refine load_run hr hc.1 (by omega) fun j v hj hv => ?_
      have := hcell (i * z + o + j) v hv
      rw [Addr.add_mid] at this
      rw [show 0 + i * z + o + j = 0 + (i * z + o + j) by omega]
      exact this
    · exact h.elim
  · exact h.elim
theorem flat_append (ks : List Kd) (xs ys : List (Tup ks)) : flat ks (xs ++ ys) = flat ks xs ++ flat ks ys := by simp [flat, List.flatMap_append]
theorem flat_mid {ks : List Kd} {xs : List (Tup ks)} {a b j : Nat} {v : Value} (hab : a ≤ b) (hb : b ≤ xs.length) (h : (flat ks ((xs.take b).drop a))[j]? = some v) : (flat ks xs)[a * ks.length + j]? = some v := by
  have e : xs = xs.take a ++ ((xs.take b).drop a ++ xs.drop b) := by
    rw [← List.append_assoc]
    have : xs.take a ++ (xs.take b).drop a = xs.take b := by
      have := List.take_append_drop a (xs.take b)
      rwa [List.take_take, Nat.min_eq_left hab] at this
    rw [this, List.take_append_drop]
  have hl : (flat ks (xs.take a)).length = a * ks.length := by rw [flat_length, List.length_take, Nat.min_eq_left (by omega)]
  rw [e, flat_append, flat_append, List.getElem?_append_right (by omega), hl, Nat.add_sub_cancel_left]
  have hj : j < (flat ks ((xs.take b).drop a)).length := by
    rcases Nat.lt_or_ge j (flat ks ((xs.take b).drop a)).length with h' | h'
    · exact h'
    · rw [List.getElem?_eq_none h'] at h; cases h
  rw [List.getElem?_append_left hj]
  exact h
theorem wfT_sub {ks : List Kd} {xs ys : List (Tup ks)} (h : wfT ks xs) (hs : ∀ x ∈ ys, x ∈ xs) : wfT ks ys := fun x hx => h x (hs x hx)
theorem content_sound {H : Hp} (hH : hpH ν N w H) {a : A} {v : Value} {own : Bool} {ks : List Kd} {xs : List (Tup ks)} (ha : relA ν N a v) (h : content H a = some (own, ⟨ks, xs⟩)) :
    0 < ks.length ∧ wfT ks xs ∧ ∃ base cap, v = .slice base xs.length cap ∧ okSl base xs.length cap ∧ ∀ j u, (flat ks xs)[j]? = some u → ∃ x, base = some x ∧ w.cell? (x.add j) = some u := by
  unfold content at h
  split at h
  · rename_i l n
    split at h
    · rename_i own' ks' xs' hg
      cases h
      obtain ⟨h1, h2, base, cap, h3, h4, h5⟩ := row_cells (hH.ob _ _ hg).2
      obtain ⟨_, rfl, _⟩ := ha
      exact ⟨h1, h2, base, cap, h3, h4, h5⟩
    · cases h
  · rename_i l z a b
    split at h
    · rename_i own' ks' xs' hg
      split at h
      · rename_i hz
        cases h
        have hz := Nat.eq_of_beq_eq_true hz
        subst hz
        obtain ⟨h1, h2, base, cap, h3, h4, h5⟩ := row_cells (hH.ob _ _ hg).2
        obtain ⟨hl, base', n, cap', base2, hsv, hab, hbn, hok, rfl, hba, hok'⟩ := ha
        rw [h3] at hsv
        obtain ⟨rfl, hn, rfl⟩ := slice_inj hsv
        subst hn
        have hlen : ((xs'.take b).drop a).length = b - a := by rw [List.length_drop, List.length_take, Nat.min_eq_left hbn]
        refine ⟨h1, wfT_sub h2 fun x hx => List.mem_of_mem_take (List.mem_of_mem_drop hx), base2, cap - a, by rw [hlen], by rw [hlen]; exact hok', fun j u hu => ?_⟩
        have hne : a < b := by
          rcases Nat.lt_or_ge a b with h | h
          · exact h
          · have : (xs'.take b).drop a = [] := List.eq_nil_of_length_eq_zero (by omega)
            rw [this] at hu
            simp [flat] at hu
        obtain ⟨x, rfl, hc⟩ := h5 _ u (flat_mid hab hbn hu)
        have := hok.1
        rw [hba (by omega)]
        refine ⟨_, rfl, ?_⟩
        rw [Addr.add_mid]
        rw [toAddr x (hok.2.1 x rfl)] at hc
        rw [Nat.add_assoc]
        exact hc
      · cases h
    · cases h
  · cases h
theorem nums_of {xs : List Int} : flat [.i .u8] xs = xs.map (Value.int .u8) := by
  induction xs with
  | nil => rfl
  | cons x xs ih =>
    show Value.int .u8 x :: flat [.i .u8] xs = _
    rw [ih]
    rfl
theorem okS_of {xs : List Int} (h : wfT [.i .u8] xs) : okS xs := fun x hx => by
  have := h x hx (.i .u8 x) (by simp [leafs, Kd.leaf])
  simpa [L.wf, lo, hi] using this
theorem bytesOf_sound {H : Hp} (hH : hpH ν N w H) {a : A} {v : Value} {xs : List Int} {src dst e : TypeId} (ha : relA ν N a v) (h : bytesOf H a = some xs)
    (hs : P.underlying src = some (.slice e)) (he : P.underlying e = some (.int .u8)) (hd : P.underlying dst = some .string) :
    okS xs ∧ (Go.convert src dst v).run P w = .ok (.string (toBA xs)) w := by
  unfold bytesOf at h
  split at h
  · cases h
    cases ha
    exact ⟨by simp [okS], by rw [run_convert_bytes_nil (P := P) w src e hs he 0 0 dst hd]; rfl⟩
  · cases h
    obtain ⟨base, rfl, hsp⟩ := ha
    refine ⟨by simp [okS], ?_⟩
    cases base with
    | none => rw [run_convert_bytes_nil (P := P) w src e hs he 0 0 dst hd]; rfl
    | some x =>
      rw [spotless (hsp x rfl)]
      exact (run_convert_bytes_arg (P := P) w src e hs he x.block x.off _ 0 [] rfl (fun i hi => by simp at hi) dst hd).trans rfl
  · split at h
    · rename_i own xs' hc
      cases h
      obtain ⟨_, h2, base, cap, rfl, hok, hcell⟩ := content_sound hH ha hc
      refine ⟨okS_of h2, ?_⟩
      cases base with
      | none =>
        have := hok.2.2 rfl
        have h1 := hok.1
        have : xs = [] := List.eq_nil_of_length_eq_zero (by omega)
        subst this
        rw [run_convert_bytes_nil (P := P) w src e hs he _ _ dst hd]; rfl
      | some x =>
        have hx := hok.2.1 x rfl
        rw [spotless hx, run_convert_bytes_arg (P := P) w src e hs he x.block x.off _ cap xs rfl (fun i hi => ?_) dst hd]
        · rfl
        · obtain ⟨y, hy, hc⟩ := hcell i (.int .u8 (xs.getD i 0)) (by
            rw [nums_of, List.getElem?_map, List.getD_eq_getElem?_getD, List.getElem?_eq_getElem hi]; rfl)
          cases hy
          rw [toAddr x hx] at hc
          exact hc
    · cases h
theorem convert_sound {H : Hp} (hH : hpH ν N w H) {s d : TypeId} {x r : R} {u : Value} (hx : relR ν N x u) (h : (convert P H s d x).Out r) :
    ∃ z, relR ν N r z ∧ (Go.convert s d u).run P w = .ok z w := by
  unfold convert at h
  split at h
  · rename_i k0 k' k n hs hd
    obtain ⟨hr, rfl⟩ := relI hx
    exact ⟨_, conv_sound hr h, by simp [Go.convert, run_underlying hs, run_underlying hd, Conv.intToInt]⟩
  · rename_i xs hs hd
    cases h
    obtain ⟨hr, rfl⟩ := hx
    exact ⟨_, ⟨hr, rfl⟩, by simp [Go.convert, run_underlying hs, run_underlying hd, L.val]⟩
  · rename_i e a hs hd
    split at h
    · rename_i xs he hb
      cases h
      obtain ⟨h1, h2⟩ := bytesOf_sound (P := P) hH hx hb hs he hd
      exact ⟨_, ⟨h1, rfl⟩, h2⟩
    · exact h.elim
  · exact h.elim
theorem part_run {t : TypeId} {cs : List A} {vs : Array Value} {k : Nat} (hs : relAs ν N cs vs.toList) (ht : okT P t = true) (hk : k + P.cellsOf t ≤ cs.length) :
    ∃ z, relV ν N (partV P t cs k) z ∧ (part t vs k).run P w = .ok z w := by
  obtain ⟨h1, d, hu⟩ := okT_parts ht
  have hl := relAs_length hs
  unfold partV
  rw [isAggT_row hu]
  cases hd : d.isRow with
  | true =>
    refine ⟨.agg (vs.extract k (k + P.cellsOf t)), ⟨_, rfl, by simpa using relAs_take (relAs_drop hs k) (P.cellsOf t)⟩, ?_⟩
    simp [part, run_isAgg_row hu hd, run_size (P := P) (w := w) (t := t) (by simp [hu])]
  | false =>
    have hlt : k < vs.toList.length := by omega
    refine ⟨vs.toList[k], (relAs_get hs k hlt).1, ?_⟩
    simp [part, run_isAgg_scalar hu hd, show vs[k]? = some vs[k] from Array.getElem?_eq_getElem (by simpa using hlt)]
theorem index_sound {t : TypeId} {x i r : R} {u v : Value} (hx : relR ν N x u) (hi : relR ν N i v) (h : (index P t x i).Out r) :
    ∃ z, relR ν N r z ∧ (Instr.index t u v).run P w = .ok z w := by
  unfold index at h
  split at h
  · rename_i n e cs k i hu
    obtain ⟨hc, h⟩ := onlyIf_out h
    simp only [Bool.and_eq_true] at hc
    obtain ⟨j, _, h2, rfl, h4⟩ := among_out h
    cases h4
    obtain ⟨_, rfl⟩ := relI hi
    obtain ⟨vs, rfl, hs⟩ := hx
    have hle := Nat.le_of_ble_eq_true hc.2
    have : j * P.cellsOf e + P.cellsOf e ≤ n * P.cellsOf e := by rw [← Nat.succ_mul]; exact Nat.mul_le_mul_right _ (by omega)
    obtain ⟨z, hz, hr⟩ := part_run (w := w) hs hc.1 (k := j * P.cellsOf e) (by omega)
    refine ⟨z, hz, ?_⟩
    obtain ⟨h1, d, hd⟩ := okT_parts hc.1
    have hnj : ¬ n ≤ j := by omega
    simp [Instr.index, asIntOf, run_underlying hu, hnj, run_size (P := P) (w := w) (t := e) (by simp [hd]), hr]
  · rename_i xs k i hu
    obtain ⟨⟨h0, h1⟩, h⟩ := h
    cases h
    obtain ⟨hs, rfl⟩ := hx
    obtain ⟨_, rfl⟩ := relI hi
    have hlt : i.toNat < xs.length := by omega
    have hb := hs _ (List.getElem_mem hlt)
    have hg : xs.getD i.toNat 0 = xs[i.toNat] := by rw [List.getD_eq_getElem?_getD, List.getElem?_eq_getElem hlt]; rfl
    refine ⟨.int .u8 (xs.getD i.toNat 0), relI_mk ⟨by rw [hg]; exact hb.1, by rw [hg]; exact hb.2⟩, ?_⟩
    have hsz : i.toNat < (toBA xs).size := by simpa [toBA, ByteArray.size] using hlt
    show (Instr.index t (.string (toBA xs)) (.int k i)).run P w = _
    have e : ∀ hh : i.toNat < (toBA xs).size, ((toBA xs)[i.toNat]'hh).toNat = xs[i.toNat].toNat := by
      intro hh
      have ha : i.toNat < (xs.map fun x => UInt8.ofNat x.toNat).toArray.size := by simpa using hlt
      have e1 : (toBA xs)[i.toNat]'hh = (xs.map fun x => UInt8.ofNat x.toNat).toArray[i.toNat]'ha := rfl
      rw [e1, List.getElem_toArray, List.getElem_map, UInt8.toNat_ofNat']
      omega
    rw [run_index_string w t (toBA xs) k i hu, dif_pos ⟨h0, by omega⟩, hg, e]
    congr 2
    omega
  · exact h.elim
theorem fieldT_some {t u : TypeId} {f o : Nat} (h : fieldT P t f = some (o, u)) : ∃ fs fd, P.underlying t = some (.struct fs) ∧ fs[f]? = some fd ∧ fd.offset = o ∧ fd.type = u := by
  unfold fieldT at h
  split at h
  · rename_i fs hu
    split at h
    · rename_i fd hf
      cases h
      exact ⟨fs, fd, hu, hf, rfl, rfl⟩
    · cases h
  · cases h
theorem field_sound {t : TypeId} {f : Nat} {x r : R} {u : Value} (hx : relR ν N x u) (h : (field P t x f).Out r) :
    ∃ z, relR ν N r z ∧ (Instr.field t u f).run P w = .ok z w := by
  unfold field at h
  split at h
  · rename_i o ty cs hf
    obtain ⟨hc, h⟩ := onlyIf_out h
    cases h
    simp only [Bool.and_eq_true] at hc
    obtain ⟨fs, fd, hu, hfd, rfl, rfl⟩ := fieldT_some hf
    obtain ⟨vs, rfl, hs⟩ := hx
    obtain ⟨z, hz, hr⟩ := part_run (w := w) hs hc.1 (Nat.le_of_ble_eq_true hc.2)
    exact ⟨z, hz, by simp [Instr.field, run_underlying hu, hfd, asAgg, hr]⟩
  · exact h.elim
theorem fieldAt_run {t : TypeId} {f : Nat} {fs : Array Field} {fd : Field} {b o : Nat} (hu : P.underlying t = some (.struct fs)) (hf : fs[f]? = some fd) (h1 : 1 ≤ P.cellsOf fd.type) :
    (Instr.fieldAt t (.pointer (some ⟨b, o, none⟩)) f).run P w = .ok (.pointer (some ⟨b, o + fd.offset, none⟩)) w := by
  have hs : (Go.sizeOf fd.type).run P w = .ok (P.cellsOf fd.type) w := run_size1 (Nat.ble_eq_true_of_le h1)
  have h0 : P.cellsOf fd.type ≠ 0 := by omega
  simp [Instr.fieldAt, run_underlying hu, hf, Instr.sureAddr, fieldPlace, hs, h0, Addr.add_mid]
theorem fieldAddr_sound {t : TypeId} {f : Nat} {x r : R} {u : Value} (hx : relR ν N x u) (h : (fieldAddr P t x f).Out r) :
    ∃ z, relR ν N r z ∧ (Instr.fieldAt t u f).run P w = .ok z w := by
  unfold fieldAddr at h
  split at h
  · rename_i o ty l o' hf
    obtain ⟨fs, fd, hu, hfd, rfl, rfl⟩ := fieldT_some hf
    obtain ⟨hl, rfl⟩ := hx
    split at h
    · exact h.elim
    · rename_i n hn
      cases h
      exact ⟨_, ⟨hl, rfl⟩, fieldAt_run hu hfd (by omega)⟩
  · rename_i o ty l z i o' hf
    obtain ⟨fs, fd, hu, hfd, rfl, rfl⟩ := fieldT_some hf
    obtain ⟨hl, b, off, n, cap, hsv, hi, rfl⟩ := hx
    split at h
    · exact h.elim
    · rename_i n hn
      cases h
      exact ⟨_, ⟨hl, b, off, _, cap, hsv, hi, by rw [Nat.add_assoc]⟩, fieldAt_run hu hfd (by omega)⟩
  · exact h.elim
end
end Sx

set_option linter.all false
namespace Sx
open Go
section
variable {P : Program} {ν : Nu} {N : Nat} {w : World}
def setAtV : List Value → Nat → List Value → List Value
  | cs, _, [] => cs
  | cs, o, a :: asq => setAtV (cs.set o a) (o + 1) asq
theorem relAs_set : ∀ {cs : List A} {vs : List Value} (o : Nat) {a : A} {v : Value}, relAs ν N cs vs → relC ν N a v → relAs ν N (cs.set o a) (vs.set o v)
  | [], [], _, _, _, _, _ => trivial
  | _ :: _, _ :: _, 0, _, _, h, ha => ⟨ha, h.2⟩
  | _ :: _, _ :: _, o + 1, _, _, h, ha => ⟨h.1, relAs_set o h.2 ha⟩
  | [], _ :: _, _, _, _, h, _ => h.elim
  | _ :: _, [], _, _, _, h, _ => h.elim
theorem relAs_setAt : ∀ {asq : List A} {us : List Value} {cs : List A} {vs : List Value} (o : Nat), relAs ν N cs vs → relAs ν N asq us → relAs ν N (setAt cs o asq) (setAtV vs o us)
  | [], [], _, _, _, h, _ => h
  | _ :: _, _ :: _, _, _, o, h, ha => relAs_setAt (o + 1) (relAs_set o h ha.1) ha.2
  | [], _ :: _, _, _, _, _, h => h.elim
  | _ :: _, [], _, _, _, _, h => h.elim
theorem setAtV_length : ∀ (us : List Value) (vs : List Value) (o : Nat), (setAtV vs o us).length = vs.length
  | [], _, _ => rfl
  | u :: us, vs, o => by rw [setAtV, setAtV_length us]; simp
theorem fold_setAt (off : Nat) : ∀ (us : List Value) (k : Nat) (cells : Array Value), ((us.zipIdx k).foldl (fun (cs : Array Value) p => cs.setIfInBounds (off + p.2) p.1) cells).toList = setAtV cells.toList (off + k) us
  | [], _, _ => rfl
  | u :: us, k, cells => by
    rw [List.zipIdx_cons, List.foldl_cons, fold_setAt off us (k + 1)]
    simp [setAtV, Nat.add_assoc]
theorem one_cells {v : Value} (h : v.oneCell' = true) : v.cells = #[v] := by cases v <;> first | rfl | cases h
theorem asCells_rel {v : V} {asq : List A} {u : Value} (h : relV ν N v u) (ha : asCells v = some asq) : relAs ν N asq u.cells.toList := by
  cases v with
  | one a =>
    have hj : a ≠ .junk := by rintro rfl; cases ha
    have : asCells (.one a) = some [a] := by cases a <;> first | rfl | exact absurd rfl hj
    rw [this] at ha
    cases ha
    have h1 := relA_one h hj
    rw [one_cells h1]
    exact ⟨⟨h, h1⟩, trivial⟩
  | agg cs =>
    cases ha
    obtain ⟨vs, rfl, h⟩ := h
    exact h
def relParts (ν : Nu) (N : Nat) : List (Nat × R) → List (Nat × Value) → Prop
  | [], [] => True
  | a :: asq, v :: vs => a.1 = v.1 ∧ relR ν N a.2 v.2 ∧ relParts ν N asq vs
  | _, _ => False
theorem relParts_ev {tm : List R} {a : Act} (hT : relT ν N tm a.tmps) : ∀ (ps : List (Nat × Operand)), relParts ν N (ps.map fun q => (q.1, ev tm q.2)) (ps.map fun q => (q.1, a.eval q.2))
  | [] => trivial
  | p :: ps => ⟨rfl, relR_ev hT p.2, relParts_ev hT ps⟩
theorem fill_sound {place : Nat → Option (Nat × Nat)} : ∀ {ps : List (Nat × R)} {us : List (Nat × Value)} {cs cs' : List A} {vs : Array Value}, fillA place cs ps = some cs' → relAs ν N cs vs.toList → relParts ν N ps us →
    ∃ vs', Instr.fill place vs us = some vs' ∧ relAs ν N cs' vs'.toList
  | [], [], cs, cs', vs, h, hr, _ => by cases h; exact ⟨vs, rfl, hr⟩
  | (i, r) :: ps, (k, u) :: us, cs, cs', vs, h, hr, hp => by
    obtain ⟨hi, hru, hp⟩ := hp
    cases hi
    simp only [fillA] at h
    split at h
    · rename_i o z v hpl
      split at h
      · rename_i asq ha
        split at h
        · rename_i hz ho
          have hz := Nat.eq_of_beq_eq_true hz
          have ho := Nat.le_of_ble_eq_true ho
          subst hz
          have hc := asCells_rel hru ha
          have hl := relAs_length hc
          have hl2 := relAs_length hr
          simp only [Array.length_toList] at hl hl2
          obtain ⟨vs', h1, h2⟩ := fill_sound (vs := (u.cells.toList.zipIdx.foldl (fun (cs : Array Value) p => cs.setIfInBounds (o + p.2) p.1) vs)) h (by rw [fold_setAt]; exact relAs_setAt o hr hc) hp
          refine ⟨vs', ?_, h2⟩
          rw [Instr.fill, hpl]
          simp only
          rw [if_neg (by simp; omega), ← Array.foldl_toList, Array.toList_zipIdx]
          exact h1
        · cases h
      · cases h
    · cases h
  | [], _ :: _, _, _, _, _, _, h => h.elim
  | _ :: _, [], _, _, _, _, _, h => h.elim
theorem zcells_some {t : TypeId} {z : List Value} (h : zcells P t = some z) : ∃ i v, P.info? t = some i ∧ i.zero = some v ∧ z = v.cells.toList := by
  unfold zcells at h
  split at h
  · rename_i i hi
    split at h
    · rename_i v hv
      cases h
      exact ⟨i, v, hi, hv, rfl⟩
    · cases h
  · cases h
theorem zatoms_some {t : TypeId} {cs : List A} (h : zatoms P t = some cs) : ∃ i v, P.info? t = some i ∧ i.zero = some v ∧ relAs ν N cs v.cells.toList := by
  unfold zatoms at h
  split at h
  · rename_i z hz
    obtain ⟨i, v, h1, h2, rfl⟩ := zcells_some hz
    split at h
    · rename_i hall
      cases h
      exact ⟨i, v, h1, h2, relAs_cst _ hall⟩
    · cases h
  · cases h
theorem mapM_places : ∀ (fs : List Field), (fs.all fun f => (P.info? f.type).isSome) = true → fs.mapM (fun f => (P.info? f.type).map fun i => (f.offset, i.size)) = some (fs.map fun f => (f.offset, P.cellsOf f.type))
  | [], _ => rfl
  | f :: fs, h => by
    simp only [List.all_cons, Bool.and_eq_true] at h
    obtain ⟨i, hi⟩ := Option.isSome_iff_exists.1 h.1
    have := mapM_places fs h.2
    simp [List.mapM_cons, hi, this, Program.cellsOf]
theorem build_sound {t : TypeId} {ps : List (Nat × R)} {us : List (Nat × Value)} {r : R} (hp : relParts ν N ps us) (h : (build P t ps).Out r) :
    ∃ z, relR ν N r z ∧ (Instr.build t us.toArray).run P w = .ok z w := by
  unfold build at h
  split at h
  · rename_i z fs hz hu
    obtain ⟨hall, h⟩ := onlyIf_out h
    split at h
    · rename_i cs hf
      cases h
      obtain ⟨i, v, h1, h2, h3⟩ := zatoms_some (ν := ν) (N := N) hz
      obtain ⟨vs', h4, h5⟩ := fill_sound (vs := v.cells) hf h3 hp
      refine ⟨.agg vs', ⟨vs', rfl, h5⟩, run_build w t _ _ ?_⟩
      unfold Program.built
      rw [h1, hu]
      simp only [h2, mapM_places fs.toList hall]
      rw [← h4]
      congr 1
      funext j
      simp
      cases fs[j]? <;> rfl
    · exact h.elim
  · rename_i z n e hz hu
    obtain ⟨hall, h⟩ := onlyIf_out h
    obtain ⟨ie, hie⟩ := Option.isSome_iff_exists.1 hall
    split at h
    · rename_i cs hf
      cases h
      obtain ⟨i, v, h1, h2, h3⟩ := zatoms_some (ν := ν) (N := N) hz
      obtain ⟨vs', h4, h5⟩ := fill_sound (vs := v.cells) hf h3 hp
      refine ⟨.agg vs', ⟨vs', rfl, h5⟩, run_build w t _ _ ?_⟩
      unfold Program.built
      rw [h1, hu]
      simp only [h2, hie]
      rw [← h4]
      simp [Program.cellsOf, hie]
    · exact h.elim
  · exact h.elim
theorem unop_sound {op : UnOp} {x r : R} {u : Value} (hx : relR ν N x u) (h : (unop op x).Out r) : ∃ z, relR ν N r z ∧ (Op.unary op u).run P w = .ok z w := by
  unfold unop at h
  split at h
  · obtain ⟨_, rfl⟩ := hx
    cases h
    exact ⟨_, relB_mk _, by simp [Op.unary, L.val]⟩
  · obtain ⟨_, rfl⟩ := relI hx
    exact ⟨_, into_sound h, by simp [Op.unary, Op.intArith]⟩
  · rename_i k a
    obtain ⟨_, rfl⟩ := relI hx
    cases h
    exact ⟨_, relI_mk (bits_range ..), by simp [Op.unary, intBits_xor]⟩
  · exact h.elim
theorem ptrs_sound : ∀ {rs : List R} {vs : List Value} {ps : List (Nat × Nat)}, (∀ i (h : i < vs.length), relR ν N (rs.getD i .junk) vs[i]) → rs.length = vs.length → ptrsOf rs = some ps →
    (∀ q ∈ ps, q.1 < N) ∧ vs = ps.map fun q => Value.pointer (some ⟨ν.blk q.1, q.2, none⟩)
  | [], [], ps, _, _, h => by cases h; simp
  | r :: rs, v :: vs, ps, hr, hl, h => by
    unfold ptrsOf at h
    split at h
    · rename_i heq
      cases heq
    · rename_i l o rs' heq
      cases heq
      split at h
      · rename_i qs hq
        cases h
        have h0 := hr 0 (by simp)
        obtain ⟨hlt, hv⟩ := h0
        obtain ⟨h1, h2⟩ := ptrs_sound (rs := rs) (vs := vs) (fun i hi => by have := hr (i + 1) (by simpa using hi); simpa using this) (by simpa using hl) hq
        refine ⟨fun q hq => ?_, ?_⟩
        · rcases List.mem_cons.1 hq with rfl | hq
          · exact hlt
          · exact h1 q hq
        · rw [List.map_cons, ← h2]
          congr 1
      · cases h
    · cases h
  | [], _ :: _, _, _, h, _ => by simp at h
  | _ :: _, [], _, _, h, _ => by simp at h
theorem toBA_size (xs : List Int) : (toBA xs).size = xs.length := by simp [toBA, ByteArray.size]
theorem relTs {tm : List R} {a : Act} (hT : relT ν N tm a.tmps) : ∀ (xs : List Operand), (xs.map (ev tm)).length = (xs.map a.eval).length ∧ ∀ i (h : i < (xs.map a.eval).length), relR ν N ((xs.map (ev tm)).getD i .junk) (xs.map a.eval)[i] := fun xs =>
  ⟨by simp, fun i h => by
    have hi : i < xs.length := by simpa using h
    simp only [List.getD_eq_getElem?_getD, List.getElem?_map, List.getElem?_eq_getElem hi, Option.map_some, Option.getD_some, List.getElem_map]
    exact relR_ev hT _⟩
theorem max_ints {ts : Array TypeId} {t : TypeId} {k : IntKind} {x y : Int} : (Builtin.max_ ts t #[.int k x, .int k y]).run P w = .ok (.int k (max x y)) w := by
  have : (if y > x then y else x) = max x y := by split <;> omega
  simp [Builtin.max_, Builtin.max2, this]
theorem min_ints {ts : Array TypeId} {t : TypeId} {k : IntKind} {x y : Int} : (Builtin.min_ ts t #[.int k x, .int k y]).run P w = .ok (.int k (min x y)) w := by
  have : (if y < x then y else x) = min x y := by split <;> omega
  simp [Builtin.min_, Builtin.min2, this]
theorem min_ints3 {ts : Array TypeId} {t : TypeId} {k : IntKind} {x y z : Int} : (Builtin.min_ ts t #[.int k x, .int k y, .int k z]).run P w = .ok (.int k (min (min x y) z)) w := by
  have : (if y < x then y else x) = min x y := by split <;> omega
  have h2 : (if z < min x y then z else min x y) = min (min x y) z := by split <;> omega
  simp [Builtin.min_, Builtin.min2, this, h2]
theorem maxLen_hi : (maxLen : Int) = hi .i64 := by decide
theorem len_sound {t : TypeId} {ty : TypeId} {x r : R} {u : Value} {ts : Array TypeId} (hts : ts[0]? = some t) (hx : relR ν N x u) (h : (lenOf P t x).Out r) : ∃ z, relR ν N r z ∧ (Builtin.len_ ts ty #[u]).run P w = .ok z w := by
  have hm := maxLen_hi
  have hlo : lo .i64 ≤ 0 := lo_le _
  unfold lenOf at h
  split at h
  · rename_i e l n hu
    cases h
    obtain ⟨_, rfl, base, cap, hsv, hok⟩ := hx
    have := hok.1
    exact ⟨.int .i64 n, relI_mk ⟨by omega, by omega⟩, by rw [hsv]; simp [Builtin.len_, hts, run_underlying hu, goInt]⟩
  · rename_i e l z a b hu
    cases h
    obtain ⟨_, base, n, cap, base', hsv, hab, hbn, hok, rfl, _, hok'⟩ := hx
    have := hok'.1
    exact ⟨.int .i64 ((b - a : Nat) : Int), relI_mk ⟨by omega, by omega⟩, by simp [Builtin.len_, hts, run_underlying hu, goInt]⟩
  · rename_i e hu
    cases h
    cases hx
    exact ⟨.int .i64 0, relI_mk ⟨by omega, by omega⟩, by simp [Builtin.len_, hts, run_underlying hu, goInt]⟩
  · rename_i e hu
    cases h
    obtain ⟨base, rfl, _⟩ := hx
    exact ⟨.int .i64 0, relI_mk ⟨by omega, by omega⟩, by simp [Builtin.len_, hts, run_underlying hu, goInt]⟩
  · rename_i xs hu
    obtain ⟨hb, h⟩ := h
    cases h
    obtain ⟨_, rfl⟩ := hx
    exact ⟨.int .i64 xs.length, relI_mk ⟨by omega, hb⟩, by simp [Builtin.len_, hts, run_underlying hu, goInt, L.val, toBA_size]⟩
  · exact h.elim
theorem cap_sound {t : TypeId} {ty : TypeId} {x r : R} {u : Value} {ts : Array TypeId} (hts : ts[0]? = some t) (hx : relR ν N x u) (h : (capOf P t x).Out r) : ∃ z, relR ν N r z ∧ (Builtin.cap_ ts ty #[u]).run P w = .ok z w := by
  have hm := maxLen_hi
  have hlo : lo .i64 ≤ 0 := lo_le _
  unfold capOf at h
  split at h
  · rename_i e hu
    cases h
    cases hx
    exact ⟨.int .i64 0, relI_mk ⟨by omega, by omega⟩, by simp [Builtin.cap_, hts, run_underlying hu, goInt]⟩
  · exact h.elim
theorem map_two {α β : Type} {f : α → β} {xs : List α} {a b : β} (h : xs.map f = [a, b]) : ∃ p q, xs = [p, q] ∧ f p = a ∧ f q = b := by
  match xs, h with
  | [p, q], h => simp at h; exact ⟨p, q, rfl, h.1, h.2⟩
theorem map_three {α β : Type} {f : α → β} {xs : List α} {a b c : β} (h : xs.map f = [a, b, c]) : ∃ p q r, xs = [p, q, r] ∧ f p = a ∧ f q = b ∧ f r = c := by
  match xs, h with
  | [p, q, r], h => simp at h; exact ⟨p, q, r, rfl, h.1, h.2.1, h.2.2⟩
theorem slice3_run {t e : TypeId} {base : Option Addr} {n cap : Nat} {k k' : IntKind} (hu : P.underlying t = some (.slice e)) (hs : inB 1 (P.cellsOf e) = true) :
    (Instr.sliceAt t (.slice base n cap) none (some (.int k 0)) (some (.int k' 0))).run P w = .ok (.slice base 0 0) w := by
  have he := elem_slice hu
  have hu' : P.underlying t = some (.slice (P.elem t)) := by rw [he]; exact hu
  have hsz := run_size1 (P := P) (w := w) hs
  simp [Instr.sliceAt, run_underlying hu, Instr.slice, Instr.sliceBounds, Instr.sliceBound, asInt, asIntOf, hsz]
theorem slice3_sound {t : TypeId} {x h m r : R} {u hv mv : Value} (hx : relR ν N x u) (hh : relR ν N h hv) (hm : relR ν N m mv) (ho : (slice3 P t x h m).Out r) :
    ∃ z, relR ν N r z ∧ (Instr.sliceAt t u none (some hv) (some mv)).run P w = .ok z w := by
  unfold slice3 at ho
  split at ho
  · exact ho.elim
  rename_i e he
  have hu := elemT_some he
  have hs := (onlyIf_out ho).1
  replace ho := (onlyIf_out ho).2
  split at ho
  · obtain ⟨⟨rfl, rfl⟩, h2⟩ := ho
    cases h2
    obtain ⟨_, rfl⟩ := relI hh
    obtain ⟨_, rfl⟩ := relI hm
    obtain ⟨hl, rfl, base, cap, hsv, hok⟩ := hx
    rw [hsv]
    exact ⟨_, ⟨base, rfl, hok.2.1⟩, slice3_run hu hs⟩
  · obtain ⟨⟨rfl, rfl⟩, h2⟩ := ho
    cases h2
    obtain ⟨_, rfl⟩ := relI hh
    obtain ⟨_, rfl⟩ := relI hm
    obtain ⟨hl, base, n, cap, base', hsv, hab, hbn, hok, rfl, hba, hok'⟩ := hx
    exact ⟨_, ⟨base', rfl, hok'.2.1⟩, slice3_run hu hs⟩
  · obtain ⟨⟨rfl, rfl⟩, h2⟩ := ho
    cases h2
    obtain ⟨_, rfl⟩ := relI hh
    obtain ⟨_, rfl⟩ := relI hm
    cases hx
    exact ⟨_, rfl, slice3_run hu hs⟩
  · obtain ⟨⟨rfl, rfl⟩, h2⟩ := ho
    cases h2
    obtain ⟨_, rfl⟩ := relI hh
    obtain ⟨_, rfl⟩ := relI hm
    obtain ⟨base, rfl, hsp⟩ := hx
    exact ⟨_, ⟨base, rfl, hsp⟩, slice3_run hu hs⟩
  · exact ho.elim
theorem fl_sound {H : Hp} {tm : List R} {a : Act} (hT : relT ν N tm a.tmps) (hH : hpH ν N w H) {o : Oper} {r : R} (h : (fl P tm H o.op).Out r) :
    ∃ v, relR ν N r v ∧ (execOp a.eval o).run P w = .ok (.value v) w := by
  have E := relR_ev (ν := ν) (N := N) hT
  obtain ⟨dst, op, type, pos, after, guard⟩ := o
  unfold fl at h
  simp only at h
  split at h
  · rename_i x; cases h; exact ⟨_, E x, by simp [execOp]⟩
  · rename_i x; cases h; exact ⟨_, E x, by simp [execOp]⟩
  · rename_i c x y
    unfold pick at h
    split at h
    · rename_i b hb
      have hc := E c
      rw [hb] at hc
      obtain ⟨_, hv⟩ := hc
      simp only [Fl.Out] at h
      cases b
      · cases h
        exact ⟨_, E y, by simp [execOp, hv, asBool, L.val]⟩
      · cases h
        exact ⟨_, E x, by simp [execOp, hv, asBool, L.val]⟩
    · exact h.elim
  · rename_i t parts
    obtain ⟨z, h1, h2⟩ := build_sound (w := w) (relParts_ev (ν := ν) (N := N) hT parts.toList) h
    refine ⟨z, h1, ?_⟩
    have e : (parts.map fun (x : Nat × Operand) => (x.1, a.eval x.2)) = (parts.toList.map fun q => (q.1, a.eval q.2)).toArray := by
      rw [← Array.toList_inj]; simp
    rw [← e] at h2
    simp [execOp, h2]
  · rename_i t x
    obtain ⟨z, h1, h2⟩ := load_sound hH (E x) h
    exact ⟨z, h1, by simp [execOp, h2]⟩
  · rename_i x
    have hx := E x
    unfold nilCheck at h
    split at h
    · rename_i l o hq
      cases h
      rw [hq] at hx
      obtain ⟨h1, hv⟩ := hx
      exact ⟨_, ⟨h1, rfl⟩, by simp [execOp, hv]⟩
    · rename_i l z i o hq
      cases h
      rw [hq] at hx
      obtain ⟨h1, b, off, n, cap, h2, h3, hv⟩ := hx
      exact ⟨_, ⟨h1, b, off, n, cap, h2, h3, rfl⟩, by simp [execOp, hv]⟩
    · rename_i f cs hq
      cases h
      rw [hq] at hx
      obtain ⟨h1, hv⟩ := hx
      exact ⟨_, ⟨h1, rfl⟩, by simp [execOp, hv]⟩
    · exact h.elim
  · rename_i op t x y ty
    obtain ⟨z, h1, h2⟩ := binop_sound (w := w) (xo := x) (yo := y) (E x) (E y) h
    refine ⟨z, h1, ?_⟩
    simp only [execOp, Sem.run_bind] at h2 ⊢
    simp [h2]
  · rename_i op t x
    obtain ⟨z, h1, h2⟩ := unop_sound (w := w) (P := P) (E x) h
    exact ⟨z, h1, by simp [execOp, h2]⟩
  · rename_i s d x
    obtain ⟨z, h1, h2⟩ := convert_sound hH (E x) h
    exact ⟨z, h1, by simp [execOp, h2]⟩
  · rename_i f first captured
    split at h
    · rename_i ps hs hp
      cases h
      obtain ⟨h1, h2⟩ := ptrs_sound (relTs (ν := ν) (N := N) hT captured.toList).2 (by simp) hp
      have hf : first = #[] := by simpa using hs
      refine ⟨_, ⟨h1, rfl⟩, ?_⟩
      subst hf
      have : captured.map a.eval = (ps.map fun q => Value.pointer (some ⟨ν.blk q.1, q.2, none⟩)).toArray := by
        rw [← Array.toList_inj]; simpa using h2
      simp [execOp, Instr.makeFunc, this]
    · exact h.elim
  · rename_i t x lw hg
    obtain ⟨z, h1, h2⟩ := slice_sound (w := w) (lv := lw.map a.eval) (hv := hg.map a.eval) (E x) (by cases lw <;> simp [E]) (by cases hg <;> simp [E]) h
    exact ⟨z, h1, by simp [execOp, h2]⟩
  · rename_i t x hg m
    obtain ⟨z, h1, h2⟩ := slice3_sound (w := w) (E x) (E hg) (E m) h
    exact ⟨z, h1, by simp [execOp, h2]⟩
  · rename_i t x f
    obtain ⟨z, h1, h2⟩ := fieldAddr_sound (w := w) (E x) h
    exact ⟨z, h1, by simp [execOp, h2]⟩
  · rename_i t x f
    obtain ⟨z, h1, h2⟩ := field_sound (w := w) (E x) h
    exact ⟨z, h1, by simp [execOp, h2]⟩
  · rename_i t x i
    obtain ⟨z, h1, h2⟩ := indexAddr_sound (w := w) (E x) (E i) h
    exact ⟨z, h1, by simp [execOp, h2]⟩
  · rename_i t x i
    obtain ⟨z, h1, h2⟩ := index_sound (w := w) (E x) (E i) h
    exact ⟨z, h1, by simp [execOp, h2]⟩
  · rename_i t k
    have hx := E t
    unfold extract at h
    split at h
    · rename_i vs hq
      rw [hq] at hx
      obtain ⟨us, hv, hr⟩ := hx
      split at h
      · rename_i v hk
        cases h
        have : ∀ {xs : List V} {us : List Value} {k : Nat}, relVs ν N xs us → xs[k]? = some v → ∃ u, us[k]? = some u ∧ relV ν N v u := by
          intro xs
          induction xs with
          | nil => intro us k _ h; simp at h
          | cons x xs ih =>
            intro us k hr h
            cases us with
            | nil => exact hr.elim
            | cons u us => cases k with
              | zero => cases h; exact ⟨u, rfl, hr.1⟩
              | succ k => simpa using ih hr.2 (by simpa using h)
        obtain ⟨u, h1, h2⟩ := this hr hk
        refine ⟨u, h2, ?_⟩
        have : us[k]? = some u := by simpa using h1
        simp [execOp, hv, Instr.extract, this]
      · exact h.elim
    · exact h.elim
  · rename_i c
    obtain ⟨callee, args, argTypes⟩ := c
    simp only at h
    split at h
    · split at h
      · rename_i x t ts hx ht
        have e1 : args = #[x] := by rw [← Array.toList_inj]; simpa using hx
        have e2 : argTypes[0]? = some t := by
          have := congrArg (fun l => l[0]?) ht
          simpa using this
        subst e1
        obtain ⟨z, h1, h2⟩ := len_sound (w := w) (ty := type) e2 (E x) h
        refine ⟨z, h1, ?_⟩
        simp [execOp, resolve, invoke, Go.builtin, h2]
      · exact h.elim
    · split at h
      · rename_i x t ts hx ht
        have e1 : args = #[x] := by rw [← Array.toList_inj]; simpa using hx
        have e2 : argTypes[0]? = some t := by
          have := congrArg (fun l => l[0]?) ht
          simpa using this
        subst e1
        obtain ⟨z, h1, h2⟩ := cap_sound (w := w) (ty := type) e2 (E x) h
        refine ⟨z, h1, ?_⟩
        simp [execOp, resolve, invoke, Go.builtin, h2]
      · exact h.elim
    · unfold minR at h
      split at h
      · rename_i k x k' y hq
        split at h
        · rename_i hk
          cases h
          have := of_decide_eq_true hk
          subst this
          obtain ⟨p, q, e1, e2, e3⟩ := map_two hq
          have e1 : args = #[p, q] := by rw [← Array.toList_inj]; simpa using e1
          subst e1
          have hp := E p
          have hq := E q
          rw [e2] at hp
          rw [e3] at hq
          obtain ⟨r1, hp⟩ := relI hp
          obtain ⟨r2, hq⟩ := relI hq
          exact ⟨.int k (min x y), relI_mk ⟨by omega, by omega⟩, by simp [execOp, resolve, invoke, Go.builtin, hp, hq, min_ints]⟩
        · exact h.elim
      · rename_i k x k' y k'' z hq
        split at h
        · rename_i hk hk'
          cases h
          have := of_decide_eq_true hk
          subst this
          have := of_decide_eq_true hk'
          subst this
          obtain ⟨p, q, s, e1, e2, e3, e4⟩ := map_three hq
          have e1 : args = #[p, q, s] := by rw [← Array.toList_inj]; simpa using e1
          subst e1
          have hp := E p
          have hq := E q
          have hs := E s
          rw [e2] at hp
          rw [e3] at hq
          rw [e4] at hs
          obtain ⟨r1, hp⟩ := relI hp
          obtain ⟨r2, hq⟩ := relI hq
          obtain ⟨r3, hs⟩ := relI hs
          exact ⟨.int k (min (min x y) z), relI_mk ⟨by omega, by omega⟩, by simp [execOp, resolve, invoke, Go.builtin, hp, hq, hs, min_ints3]⟩
        · exact h.elim
      · exact h.elim
    · unfold maxR at h
      split at h
      · rename_i k x k' y hq
        split at h
        · rename_i hk
          cases h
          have := of_decide_eq_true hk
          subst this
          obtain ⟨p, q, e1, e2, e3⟩ := map_two hq
          have e1 : args = #[p, q] := by rw [← Array.toList_inj]; simpa using e1
          subst e1
          have hp := E p
          have hq := E q
          rw [e2] at hp
          rw [e3] at hq
          obtain ⟨r1, hp⟩ := relI hp
          obtain ⟨r2, hq⟩ := relI hq
          exact ⟨.int k (max x y), relI_mk ⟨by omega, by omega⟩, by simp [execOp, resolve, invoke, Go.builtin, hp, hq, max_ints]⟩
        · exact h.elim
      · exact h.elim
    · exact h.elim
  · exact h.elim
end
end Sx
end
