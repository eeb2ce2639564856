/- A symbolic walk: contracts, regions, code. The definitions. -/
import Derived.Test.YtcilcmbailoeaaaSxA
import Derived.Orders
set_option linter.all false
namespace Sx
open Go

/-! ### what a formal heap stands for -/
abbrev Rn := List (Nat × A)
def rget : Rn → Nat → Option A
  | [], _ => none
  | (l, a) :: r, k => match Nat.beq l k with
    | true => some a
    | false => rget r k
/-- A formal cell against an actual one. -/
def mtL (x y : L) (K : Prop) : Prop := match x, y with
  | .i k n, .i k' n' => match sameK k k' with
    | true => n' = n ∧ K
    | false => False
  | .b x, .b y => y = x ∧ K
  | .s x, .s y => y = x ∧ K
  | _, _ => False
def mtP (r : Rn) (l o l' o' : Nat) (K : Rn → Prop) : Prop := match Nat.beq o o', rget r l with
  | true, none => K ((l, .p l' 0) :: r)
  | true, some (.p m _) => match Nat.beq m l' with
    | true => K r
    | false => False
  | _, _ => False
def mtPs (r : Rn) : List (Nat × Nat) → List (Nat × Nat) → (Rn → Prop) → Prop
  | [], [], K => K r
  | a :: as, b :: bs, K => mtP r a.1 a.2 b.1 b.2 fun r => mtPs r as bs K
  | _, _, _ => False
def mtZ (a : A) (K : Prop) : Prop := match a with
  | .z => K
  | .ns => K
  | _ => False
def mtA (r : Rn) (a a' : A) (K : Rn → Prop) : Prop := match a, a' with
  | .junk, _ => K r
  | .l x, .l y => mtL x y (K r)
  | .p l o, .p l' o' => mtP r l o l' o' K
  | .f l n, .f l' n' => match rget r l with
    | none => n' = n ∧ K ((l, .f l' n') :: r)
    | some (.f m _) => match Nat.beq m l' with
      | true => n' = n ∧ K r
      | false => False
    | _ => False
  | .f l n, .sb l' z a b => match rget r l with
    | none => b - a = n ∧ K ((l, .sb l' z a b) :: r)
    | _ => False
  | .f l n, .ns => match rget r l with
    | none => 0 = n ∧ K ((l, .ns) :: r)
    | some .ns => 0 = n ∧ K r
    | _ => False
  | .f l n, .z => match rget r l with
    | none => 0 = n ∧ K ((l, .z) :: r)
    | _ => False
  | .sb l z a b, .f l' n => match rget r l, inB 1 z with
    | some (.f m _), true => match Nat.beq m l' with
      | true => 0 = a ∧ n = b ∧ K r
      | false => False
    | _, _ => False
  | .sb l z a b, .sb l' z' a' b' => match rget r l, Nat.beq z z' with
    | some (.f m _), true => match Nat.beq m l' with
      | true => a' = a ∧ b' = b ∧ K r
      | false => False
    | _, _ => False
  | .np, .np => K r
  | .ns, .ns => K r
  | .z, a => mtZ a (K r)
  | .fn f cs, .fn f' cs' => match Nat.beq f f' with
    | true => mtPs r cs cs' K
    | false => False
  | .o v, .o v' => v' = v ∧ K r
  | _, _ => False
def mtAs (r : Rn) : List A → List A → (Rn → Prop) → Prop
  | [], [], K => K r
  | a :: as, b :: bs, K => mtA r a b fun r => mtAs r as bs K
  | _, _, _ => False
def mtV (r : Rn) (v v' : V) (K : Rn → Prop) : Prop := match v, v' with
  | .one a, .one b => mtA r a b K
  | .agg as, .agg bs => mtAs r as bs K
  | _, _ => False
def mtVs (r : Rn) : List V → List V → (Rn → Prop) → Prop
  | [], [], K => K r
  | a :: as, b :: bs, K => mtV r a b fun r => mtVs r as bs K
  | _, _, _ => False
def mtR (r : Rn) (v v' : R) (K : Rn → Prop) : Prop := match v, v' with
  | .v a, .v b => mtV r a b K
  | .tup as, .tup bs => mtVs r as bs K
  | _, _ => False
def mtRs (r : Rn) : List R → List R → (Rn → Prop) → Prop
  | [], [], K => K r
  | a :: as, b :: bs, K => mtR r a b fun r => mtRs r as bs K
  | _, _, _ => False
/-- How a row may be used: written, read while the call lasts, read for ever. -/
def castRow (ks ks' : List Kd) (xs : List (Tup ks')) : Option (List (Tup ks)) := if h : ks' = ks then some (h ▸ xs) else none
def mtHp (r : Rn) (H : Hp) : List (Nat × Ob) → (Rn → Prop) → Prop
  | [], K => K r
  | (l, o) :: fs, K => match o, rget r l with
    | .cells as, some (.p l' _) => match hget H l' with
      | some (.cells bs) => mtAs r as bs fun r => mtHp r H fs K
      | _ => False
    | .abs a, some (.p l' _) => match hget H l' with
      | some (.abs b) => b = a ∧ mtHp r H fs K
      | _ => False
    | .row own ks xs, some (.f l' _) => match hget H l' with
      | some (.row own' ks' xs') => match (!own || own'), castRow ks ks' xs' with
        | true, some ys => ys = xs ∧ mtHp r H fs K
        | _, _ => False
      | _ => False
    | .row own ks xs, some (.sb l' z a b) => match own with
      | true => match hget H l' with
        | some (.row true ks' xs') => match Nat.beq z ks'.length && Nat.beq a 0, castRow ks ks' (xs'.take b) with
          | true, some ys => ys = xs ∧ mtHp r H fs K
          | _, _ => False
        | _ => False
      | false => match hget H l' with
        | some (.row _ ks' xs') => match Nat.beq z ks'.length, castRow ks ks' ((xs'.take b).drop a) with
          | true, some ys => ys = xs ∧ mtHp r H fs K
          | _, _ => False
        | _ => False
    | .row false ks xs, some .z => match ks.length with
      | 0 => False
      | _ + 1 => [] = xs ∧ mtHp r H fs K
    | .row _ ks xs, some .ns => match ks.length with
      | 0 => False
      | _ + 1 => [] = xs ∧ mtHp r H fs K
    | .gone, _ => mtHp r H fs K
    | _, _ => False
def tgt : A → Option Nat
  | .p l _ => some l
  | .f l _ => some l
  | .sb l _ _ _ => some l
  | _ => none
def ownOb : Ob → Bool
  | .cells _ => true
  | .row own _ _ => own
  | .abs _ => true
  | .gone => false
/-- What is written stands for no label twice. -/
def apartR (r : Rn) : List (Nat × Ob) → Bool
  | [] => true
  | (l, o) :: fs => (match (rget r l).bind tgt with
      | some t => fs.all fun q => match (rget r q.1).bind tgt with
        | some t' => !Nat.beq t t' || (!ownOb o && !ownOb q.2)
        | none => true
      | none => true) && apartR r fs
/-- One way in which a call may end: what comes back, what has become of what was handed in, what is new. -/
structure Outc (X : Type) where
  Y : Type
  post : X → Y → Prop
  res : X → Y → R
  out : X → Y → List (Nat × Ob)
  nn : Nat
/-- A function's contract. -/
structure Con where
  X : Type
  args : X → List V
  heap : X → List Ob
  pre : X → Prop
  outs : List (Outc X)
def enum {α : Type} (n : Nat) : List α → List (Nat × α)
  | [] => []
  | a :: as => (n, a) :: enum (n + 1) as
/-- A formal cell in the caller's words: labels from nf on are new ones, from nx on. -/
def renA (r : Rn) (nf nx : Nat) : A → A
  | .p l o => match Nat.blt l nf with
    | true => match rget r l with
      | some (.p l' _) => .p l' o
      | _ => .junk
    | false => .p (nx + (l - nf)) o
  | .f l n => match Nat.blt l nf with
    | true => match rget r l with
      | some (.f l' _) => .f l' n
      | some (.sb l' z a b) => .sb l' z a b
      | some .ns => .ns
      | some .z => .z
      | _ => .junk
    | false => .f (nx + (l - nf)) n
  | .sb l z a b => match Nat.blt l nf with
    | true => match rget r l with
      | some (.f l' _) => .sb l' z a b
      | _ => .junk
    | false => .sb (nx + (l - nf)) z a b
  | .e l z i o => match Nat.blt l nf with
    | true => match rget r l with
      | some (.f l' _) => .e l' z i o
      | _ => .junk
    | false => .e (nx + (l - nf)) z i o
  | .fn f [] => .fn f []
  | .fn _ _ => .junk
  | .c _ _ => .junk
  | a => a
def renV (r : Rn) (nf nx : Nat) : V → V
  | .one a => .one (renA r nf nx a)
  | .agg cs => .agg (cs.map (renA r nf nx))
def renR (r : Rn) (nf nx : Nat) : R → R
  | .v v => .v (renV r nf nx v)
  | .tup vs => .tup (vs.map (renV r nf nx))
def renOb (r : Rn) (nf nx : Nat) : Ob → Ob
  | .cells cs => .cells (cs.map (renA r nf nx))
  | o => o
def outH (r : Rn) (nf nx : Nat) (H : Hp) : List (Nat × Ob) → Hp
  | [] => H
  | (l, o) :: fs => match Nat.blt l nf with
    | true => match (rget r l).bind tgt with
      | some l' => hset (outH r nf nx H fs) l' nx (renOb r nf nx o)
      | none => outH r nf nx H fs
    | false => (nx + (l - nf), nx, renOb r nf nx o) :: outH r nf nx H fs
/-- What was handed in cut short is not told as what it has become: only that it is gone. -/
def cutOK (r : Rn) (out : List (Nat × Ob)) : Bool := out.all fun q => match q.2 with
  | .gone => true
  | _ => match rget r q.1 with
    | some (.sb _ _ _ _) => false
    | _ => true
def allOuts {X : Type} (x : X) (r : Rn) (nf nx : Nat) (H : Hp) (K : R → Hp → Nat → Prop) : List (Outc X) → Prop
  | [] => True
  | [o] => ∀ y : o.Y, o.post x y → ifB (cutOK r (o.out x y)) (K (renR r nf nx (o.res x y)) (outH r nf nx H (o.out x y)) (nx + o.nn + 1)) False
  | o :: os => (∀ y : o.Y, o.post x y → ifB (cutOK r (o.out x y)) (K (renR r nf nx (o.res x y)) (outH r nf nx H (o.out x y)) (nx + o.nn + 1)) False) ∧ allOuts x r nf nx H K os
def callS (S : Con) (args : List V) (H : Hp) (nx : Nat) (K : R → Hp → Nat → Prop) : Prop :=
  ∃ x : S.X, mtVs [] (S.args x) args fun r => mtHp r H (enum 0 (S.heap x)) fun r =>
    ifB (apartR r (enum 0 (S.heap x)) && r.all fun q => Nat.blt q.1 (S.heap x).length) (S.pre x ∧ allOuts x r (S.heap x).length nx H K S.outs) False

/-! ### operations that turn something -/
/-- The scalars of a row's elements. -/
def rowT (P : Program) (e : TypeId) : Option (List Kd) := match kindsT P e with
  | some ks => match Nat.beq ks.length (P.cellsOf e) && inB 1 ks.length with
    | true => some ks
    | false => none
  | none => none
def vals : List R → Option (List V)
  | [] => some []
  | .v v :: rs => match vals rs with
    | some vs => some (v :: vs)
    | none => none
  | _ => none
def scal : A → Option L
  | .l x => some x
  | _ => none
def group (ks : List Kd) : Nat → List A → Option (List (Tup ks))
  | 0, [] => some []
  | n + 1, cs => match mapO scal (cs.take ks.length) with
    | some ls => match unleafs ks ls, group ks n (cs.drop ks.length) with
      | some x, some xs => some (x :: xs)
      | _, _ => none
    | none => none
  | _, _ => none
def store (P : Program) (H : Hp) (nx : Nat) (t : TypeId) (x : R) (v : R) (K : Hp → Prop) : Prop := match v with
  | .v v => match asCells v with
    | none => False
    | some vs => match Nat.beq vs.length (P.cellsOf t) && inB 1 vs.length with
      | false => False
      | true => match x with
        | .v (.one (.p l o)) => match hget H l with
          | some (.cells cs) => match inB (o + vs.length) cs.length with
            | true => K (hset H l nx (.cells (setAt cs o vs)))
            | false => False
          | _ => False
        | .v (.one (.e l z i o)) => match hget H l with
          | some (.row true ks xs) => match Nat.beq z ks.length, inB (o + vs.length) ks.length, mapO scal (setAt (cellsAt ks xs i) o vs) with
            | true, true, some ls => match unleafs ks ls with
              | some y => K (hset H l nx (.row true ks (xs.set i y)))
              | none => False
            | _, _, _ => False
          | _ => False
        | _ => False
  | _ => False
/-- What is appended, or copied. -/
def source (ks : List Kd) (H : Hp) : R → Option (List (Tup ks))
  | .v (.one .ns) => some []
  | .v (.one .z) => some []
  | .v (.one a) => match content H a with
    | some (_, ⟨ks', xs⟩) => castRow ks ks' xs
    | none => none
  | _ => none
def append (P : Program) (H : Hp) (nx : Nat) (t : TypeId) (s x : R) (K : R → Hp → Prop) : Prop := match elemT P t with
  | none => False
  | some e => match rowT P e with
    | none => False
    | some ks => match source ks H x with
      | none => False
      | some ys => match s with
        | .v (.one .ns) => (ys.length * P.bytesOf e ≤ 140737488355328 ∧ ys.length ≤ 140737488355328) ∧ K (.a (.f nx ys.length)) ((nx, nx, .row true ks ys) :: H)
        | .v (.one .z) => ifB ys.isEmpty (K (.a .z) H) ((ys.length * P.bytesOf e ≤ 140737488355328 ∧ ys.length ≤ 140737488355328) ∧ K (.a (.f nx ys.length)) ((nx, nx, .row true ks ys) :: H))
        | .v (.one (.f l n)) => match hget H l with
          | some (.row true ks' xs') => match castRow ks ks' xs' with
            | some xs => ((n + ys.length) * P.bytesOf e ≤ 140737488355328 ∧ n + ys.length ≤ 140737488355328) ∧ K (.a (.f nx (n + ys.length))) ((nx, nx, .row true ks (xs ++ ys)) :: hset H l nx .gone)
            | none => False
          | _ => False
        | .v (.one (.sb l z a b)) => match hget H l, Nat.beq z ks.length && Nat.beq a 0 with
          | some (.row true ks' xs'), true => match castRow ks ks' xs' with
            | some xs => ((b + ys.length) * P.bytesOf e ≤ 140737488355328 ∧ b + ys.length ≤ 140737488355328) ∧ K (.a (.f nx (b + ys.length))) ((nx, nx, .row true ks (xs.take b ++ ys)) :: hset H l nx .gone)
            | none => False
          | _, _ => False
        | _ => False
/-- So many zeros behind nothing. -/
def appendZ (P : Program) (H : Hp) (nx : Nat) (t t' : TypeId) (s x : R) (K : R → Hp → Prop) : Prop := match elemT P t, intT P t', s, x with
  | some e, some .i64, .v (.one .ns), .v (.one (.l (.i .i64 n))) => match rowT P e with
    | none => False
    | some ks => (0 < n ∧ n * P.bytesOf e ≤ 140737488355328 ∧ n ≤ 140737488355328) ∧ K (.a (.f nx n.toNat)) ((nx, nx, .row true ks (List.replicate n.toNat (zT ks))) :: H)
  | _, _, _, _ => False
def mid {α : Type} (xs : List α) (a : Nat) (ys : List α) : List α := xs.take a ++ (ys ++ xs.drop (a + ys.length))
def copy (P : Program) (H : Hp) (nx : Nat) (t : TypeId) (d x : R) (K : R → Hp → Prop) : Prop := match elemT P t with
  | none => False
  | some e => match rowT P e with
    | none => False
    | some ks => match source ks H x with
      | none => False
      | some ys => match d with
        | .v (.one (.f l n)) => match hget H l with
          | some (.row true ks' xs') => match castRow ks ks' xs' with
            | some xs => K (.i .i64 ((min ys.length n : Nat) : Int)) (hset H l nx (.row true ks (mid xs 0 (ys.take (min ys.length n)))))
            | none => False
          | _ => False
        | .v (.one (.sb l z a b)) => match hget H l, Nat.beq z ks.length with
          | some (.row true ks' xs'), true => match castRow ks ks' xs' with
            | some xs => K (.i .i64 ((min ys.length (b - a) : Nat) : Int)) (hset H l nx (.row true ks (mid xs a (ys.take (min ys.length (b - a))))))
            | none => False
          | _, _ => False
        | .v (.one .ns) => K (.i .i64 0) H
        | _ => False
def clear (P : Program) (H : Hp) (nx : Nat) (t : TypeId) (d : R) (K : Hp → Prop) : Prop := match elemT P t with
  | none => False
  | some e => match rowT P e with
    | none => False
    | some ks => match d with
      | .v (.one (.f l n)) => match hget H l with
        | some (.row true ks' xs') => match castRow ks ks' xs' with
          | some xs => K (hset H l nx (.row true ks (mid xs 0 (List.replicate n (zT ks)))))
          | none => False
        | _ => False
      | .v (.one (.sb l z a b)) => match hget H l, Nat.beq z ks.length with
        | some (.row true ks' xs'), true => match castRow ks ks' xs' with
          | some xs => K (hset H l nx (.row true ks (mid xs a (List.replicate (b - a) (zT ks)))))
          | none => False
        | _, _ => False
      | .v (.one .ns) => K H
      | _ => False
def makeSlice (P : Program) (H : Hp) (nx : Nat) (t : TypeId) (l c : R) (K : R → Hp → Prop) : Prop := match elemT P t, l, c with
  | some e, .v (.one (.l (.i _ l))), .v (.one (.l (.i _ c))) => match rowT P e with
    | some ks => (0 ≤ l ∧ l ≤ c ∧ c ≤ 140737488355328 ∧ c * (P.bytesOf e : Int) ≤ 140737488355328) ∧ K (.a (.f nx l.toNat)) ((nx, nx, .row true ks (List.replicate l.toNat (zT ks))) :: H)
    | none => False
  | _, _, _ => False
def buildSlice (P : Program) (H : Hp) (nx : Nat) (t : TypeId) (n : Nat) (parts : List (Nat × R)) (K : R → Hp → Prop) : Prop := match elemT P t with
  | none => False
  | some e => match rowT P e, zatoms P e, inB (n * P.cellsOf e) 65536 with
    | none, some z, true => match fillA (fun i => some (i * P.cellsOf e, P.cellsOf e)) ((List.replicate n z).flatten) parts, Nat.beq z.length (P.cellsOf e) && inB 1 z.length with
      | some cs, true => K (.a (.c nx n)) ((nx, nx, .cells cs) :: H)
      | _, _ => False
    | some ks, some z, true => match fillA (fun i => some (i * P.cellsOf e, P.cellsOf e)) ((List.replicate n z).flatten) parts with
      | some cs => match group ks n cs with
        | some xs => K (.a (.f nx n)) ((nx, nx, .row true ks xs) :: H)
        | none => False
      | none => False
    | _, _, _ => False
/-- A string as bytes. -/
def toBytes (H : Hp) (nx : Nat) (x : R) (K : R → Hp → Prop) : Prop := match x with
  | .v (.one (.l (.s xs))) => (xs.length ≤ 140737488355328) ∧ K (.a (.f nx xs.length)) ((nx, nx, .row false [.i .u8] xs) :: H)
  | _ => False
/-- A row of bytes as its own text: from here on it is only read. -/
def asText (P : Program) (H : Hp) (nx : Nat) (t : TypeId) (x : R) (K : R → Hp → Prop) : Prop := match elemT P t with
  | none => False
  | some e => match P.underlying e, x with
    | some (.int .u8), .v (.one (.f l n)) => match hget H l with
      | some (.row true ks xs) => 0 < n ∧ K (.a (.f nx n)) ((nx, nx, .row false ks xs) :: hset H l nx .gone)
      | _ => False
    | _, _ => False
section
variable (P : Program) (T : FuncId → Option Con) (inl : FuncId → List V → Hp → Nat → (R → Hp → Nat → Prop) → Prop)
def callK (f : R) (args : List R) (H : Hp) (nx : Nat) (K : R → Hp → Nat → Prop) : Prop := match f, vals args with
  | .v (.one (.fn g cs)), some vs => match T g with
    | some S => callS S (vs ++ cs.map fun q => .one (.p q.1 q.2)) H nx K
    | none => inl g (vs ++ cs.map fun q => .one (.p q.1 q.2)) H nx K
  | _, _ => False
def isNilC : Operand → Bool
  | .const (.slice none 0 0) => true
  | _ => false
/-- Is a slice nil? One of no length may be. -/
def nilK (x : R) (K : Bool → Prop) : Prop := match x with
  | .v (.one .ns) => K true
  | .v (.one (.f _ n)) => (n = 0 → K true) ∧ K false
  | .v (.one (.sb _ _ a b)) => (b - a = 0 → K true) ∧ K false
  | _ => False
def nilOp (P : Program) (op : BinOp) (t : TypeId) (x : R) (K : Bool → Prop) : Prop := match elemT P t, op with
  | some _, .eql => nilK x K
  | some _, .neq => nilK x fun b => K !b
  | _, _ => False
/-- An operation of whatever kind. -/
def opK (tm : List R) (H : Hp) (nx : Nat) (o : Op) (K : R → Hp → Nat → Prop) : Prop := match o with
  | .alloc t => match zatoms P t with
    | some z => K (.a (.p nx 0)) ((nx, nx, .cells z) :: H) (nx + 1)
    | none => False
  | .box _ x => match ev tm x with
    | .v v => match asCells v with
      | some vs => K (.a (.p nx 0)) ((nx, nx, .cells vs) :: H) (nx + 1)
      | none => False
    | _ => False
  | .buildSlice t n parts => buildSlice P H nx t n (parts.toList.map fun q => (q.1, ev tm q.2)) fun r H => K r H (nx + 1)
  | .makeSlice t l c => makeSlice P H nx t (ev tm l) (ev tm c) fun r H => K r H (nx + 1)
  | .store t a x => store P H nx t (ev tm a) (ev tm x) fun H => K .unit H (nx + 1)
  | .binOp op t x y q => match isNilC y with
    | true => nilOp P op t (ev tm x) fun b => K (.b b) H nx
    | false => (fl P tm H (.binOp op t x y q)).holds fun r => K r H nx
  | .convert s d x => match P.underlying s, P.underlying d with
    | some .string, some (.slice e) => match P.underlying e with
      | some (.int .u8) => toBytes H nx (ev tm x) fun r H => K r H (nx + 1)
      | _ => False
    | some (.slice _), some (.slice _) => match Nat.beq s d with
      | true => asText P H nx s (ev tm x) fun r H => K r H (nx + 1)
      | false => False
    | _, _ => (convert P H s d (ev tm x)).holds fun r => K r H nx
  | .call c => match c.callee with
    | .value f => callK T inl (ev tm f) (c.args.toList.map (ev tm)) H nx K
    | .builtin .append => match c.args.toList, c.argTypes.toList with
      | [s, x], [t, t'] => match Nat.beq t t' with
        | true => append P H nx t (ev tm s) (ev tm x) fun r H => K r H (nx + 1)
        | false => appendZ P H nx t t' (ev tm s) (ev tm x) fun r H => K r H (nx + 1)
      | _, _ => False
    | .builtin .copy => match c.args.toList, c.argTypes.toList with
      | [d, x], [t, _] => copy P H nx t (ev tm d) (ev tm x) fun r H => K r H (nx + 1)
      | _, _ => False
    | .builtin .clear => match c.args.toList, c.argTypes.toList with
      | [d], [t] => clear P H nx t (ev tm d) fun H => K .unit H (nx + 1)
      | _, _ => False
    | _ => (fl P tm H (.call c)).holds fun r => K r H nx
  | o => (fl P tm H o).holds fun r => K r H nx
def dstOf (ops : Array Oper) (j : Nat) : Option Tmp := (ops[j]?).bind (·.dst)
def guardK (ops : Array Oper) (g : Option (Nat × Bool)) (tm : List R) (yes no : List R → Prop) : Prop := match g with
  | none => yes tm
  | some (j, want) => match dstOf ops j with
    | some d => match tm.getD d .junk with
      | .v (.one (.l (.b c))) => match want with
        | true => ifB c (yes (tm.set d (.b true))) (no (tm.set d (.b false)))
        | false => ifB c (no (tm.set d (.b true))) (yes (tm.set d (.b false)))
      | .tup [] => no tm
      | _ => False
    | none => False
def vcOps (ops : Array Oper) : List Oper → St → (St → Prop) → Prop
  | [], σ, K => K σ
  | o :: rest, σ, K => guardK ops o.guard σ.tmps
      (fun tm => opK P T inl tm σ.H σ.nx o.op fun r H nx => vcOps ops rest ⟨put tm o.dst r, H, nx⟩ K)
      (fun tm => vcOps ops rest ⟨put tm o.dst .unit, σ.H, σ.nx⟩ K)

/-! ### regions whose order is drawn -/
def chainOp (P : Program) : Op → Bool
  | .alloc _ | .box .. | .buildSlice .. | .makeSlice .. | .store .. | .assign _ => true
  | .convert s d _ => match P.underlying s, P.underlying d with
    | some .string, _ => true
    | some (.slice _), some (.slice _) => true
    | _, _ => false
  | .call c => match c.callee with
    | .builtin .len => false
    | .builtin .min => false
    | .builtin .cap => false
    | .builtin .max => false
    | _ => true
  | .binOp _ _ _ y _ => isNilC y
  | .move _ | .pick .. | .build .. | .load .. | .nilCheck _ | .unOp .. | .makeFunc .. | .slice .. | .fieldAddr .. | .field .. | .indexAddr .. | .index .. | .extract .. => false
  | _ => true
def edges (o : Oper) : List Nat := (o.after.toList.filter (Region.binds .any)).map (·.on)
def masks : List Oper → List Nat → List Nat
  | [], acc => acc
  | o :: os, acc => masks os (acc ++ [(edges o).foldl (fun s e => s ||| (2 ^ e ||| acc.getD e 0)) 0])
def reads : Op → List Nat := fun o => o.operands.toList.filterMap fun
  | .tmp t => some t
  | _ => none
def gtmp (ops : Array Oper) (o : Oper) : List Nat := (o.guard.bind fun g => dstOf ops g.1).toList
def looks (ops : Array Oper) (o : Oper) : List Nat := reads o.op ++ gtmp ops o
def names (ops : Array Oper) (o : Oper) : List Nat := o.dst.toList ++ looks ops o
/-- What a quiet operation writes is named behind it alone; what a turning one writes is named by quiet ones in order. -/
def okReg (ops : Array Oper) : Bool :=
  let os := enum 0 ops.toList
  let ms := masks ops.toList []
  os.all fun x => match x.2.dst with
    | none => true
    | some d => os.all fun y => match Nat.beq x.1 y.1 with
      | true => chainOp P x.2.op || !(looks ops x.2).contains d
      | false => !(names ops y.2).contains d || ((ms.getD y.1 0).testBit x.1 || (chainOp P x.2.op && (chainOp P y.2.op || (ms.getD x.1 0).testBit y.1)))
def readyB (done : List Bool) (i : Nat) (o : Oper) : Bool := !(done.getD i true) && (edges o).all fun e => done.getD e false
def firstF (done : List Bool) : List (Nat × Oper) → Option (Nat × Oper)
  | [] => none
  | x :: xs => match readyB done x.1 x.2 && !chainOp P x.2.op with
    | true => some x
    | false => firstF done xs
def heapOf (tm : List R) : Op → Option Nat
  | .load _ a => match ev tm a with
    | .v (.one a) => tgt' a
    | _ => none
  | .convert _ _ x => match ev tm x with
    | .v (.one a) => tgt' a
    | _ => none
  | _ => none
where tgt' : A → Option Nat
  | .p l _ => some l
  | .e l _ _ _ => some l
  | .f l _ => some l
  | .sb l _ _ _ => some l
  | _ => none
/-- Behind a turning operation what quiet ones read, that need not have come before it, reads as it did. -/
def still (ops : List (Nat × Oper)) (done : List Bool) (m : Nat) (tm : List R) (H H' : Hp) : Bool :=
  ops.all fun x => !(done.getD x.1 false) || chainOp P x.2.op || m.testBit x.1 || (match heapOf tm x.2.op with
    | none => true
    | some l => Nat.beq (hst H l) (hst H' l))
def conj : List Prop → Prop
  | [] => True
  | [p] => p
  | p :: ps => p ∧ conj ps
def regA (ops : Array Oper) (os : List (Nat × Oper)) (ms : List Nat) : Nat → List Bool → St → (St → Prop) → Prop
  | 0, done, σ, K => match done.all id with
    | true => K σ
    | false => False
  | n + 1, done, σ, K => match firstF P done os with
    | some x => guardK ops x.2.guard σ.tmps
        (fun tm => (fl P tm σ.H x.2.op).holds fun r => regA ops os ms n (done.set x.1 true) ⟨put tm x.2.dst r, σ.H, σ.nx⟩ K)
        (fun tm => regA ops os ms n (done.set x.1 true) ⟨put tm x.2.dst .unit, σ.H, σ.nx⟩ K)
    | none => match os.filter fun x => readyB done x.1 x.2 with
      | [] => False
      | xs => conj (xs.map fun x => guardK ops x.2.guard σ.tmps
          (fun tm => opK P T inl tm σ.H σ.nx x.2.op fun r H nx => ifB (still P os done (ms.getD x.1 0) tm σ.H H) (regA ops os ms n (done.set x.1 true) ⟨put tm x.2.dst r, H, nx⟩ K) False)
          (fun tm => regA ops os ms n (done.set x.1 true) ⟨put tm x.2.dst .unit, σ.H, σ.nx⟩ K))
end
/-! ### code -/
inductive Ex | n | x (id : Nat) | r
structure Ann where
  X : Type
  slots : List Nat
  vals : X → List R
  fix : List Nat
  new : List Nat
  drop : List Nat
  obs : X → List Ob
  keep : List Nat := []
/-- How a loop is walked: so many rounds, or by what stands at its head (the first of some that fits). -/
inductive Lan | none | unroll (n : Nat) | inv (a : Ann) | alts (l : List Ann)
def asg : Code → List Nat
  | .region _ ops _ => ops.toList.filterMap (·.dst) ++ ops.toList.filterMap fun o => o.guard.bind fun g => dstOf ops g.1
  | .seq a b => asg a ++ asg b
  | .cond c a b => (match c with | .tmp t => [t] | _ => []) ++ asg a ++ asg b
  | .block _ b => asg b
  | .loop b => asg b
  | .scope b => asg b
  | _ => []
def setMany : List R → List Nat → List R → List R
  | tm, s :: ss, r :: rs => setMany (tm.set s r) ss rs
  | tm, _, _ => tm
def havoc (tm : List R) (as : List Nat) : List R := as.foldl (fun tm d => tm.set d .junk) tm
def newH (st : Nat) : List Nat → List Ob → Hp → Hp
  | l :: ls, o :: os, H => hset (newH st ls os H) l st o
  | _, _, H => H
/-- What the new labels stand for is gone under its elder name. -/
def dropH (st : Nat) : List Nat → Hp → Hp
  | [], H => H
  | l :: ls, H => hset (dropH st ls H) l st .gone
def maxL : List Nat → Nat → Nat
  | [], m => m
  | l :: ls, m => maxL ls (max (l + 1) m)
def idA (H : Hp) (l : Nat) : A := match hget H l with
  | some (.row _ _ xs) => .f l xs.length
  | _ => .p l 0
def idR (fix : List Nat) (H : Hp) : Rn := fix.map fun l => (l, idA H l)
def keptH (H H' : Hp) (but : List Nat) : Bool := H.all fun q => but.contains q.1 || Nat.beq (hst H' q.1) q.2.1
def labsIn (ls : List Nat) : R → Bool := fun _ => ls.isEmpty
section
variable (P : Program) (T : FuncId → Option Con) (inl : FuncId → List V → Hp → Nat → (R → Hp → Nat → Prop) → Prop) (Lp : Nat → Lan)
def slotsOf (tm : List R) (ss : List Nat) : List R := ss.map fun s => tm.getD s .junk
/-- No note tells how a loop is to be walked. -/
inductive stuck (k : Nat) (σ : St) : Prop
def unr (f : St → (Ex → St → Prop) → Prop) : Nat → St → (Ex → St → Prop) → Prop
  | 0, _, _ => False
  | n + 1, σ, Q => f σ fun e σ => match e with
    | .n => unr f n σ Q
    | e => Q e σ
/-- What the loop's head (which the state σ₀ came to) says of a state. -/
def atHead (a : Ann) (σ₀ σ : St) (x : a.X) : Prop :=
  mtRs (idR (a.fix ++ a.keep) σ.H) (a.vals x) (slotsOf σ.tmps a.slots) fun r => mtHp r σ.H ((a.fix ++ a.new).zip (a.obs x)) fun r =>
    ifB (apartR r ((a.fix ++ a.new).zip (a.obs x)) && (Nat.beq (a.obs x).length (a.fix ++ a.new).length && (a.obs x).all ownOb) && (r.all (fun q => ((a.fix ++ a.keep) ++ a.new).contains q.1) &&
      a.new.all fun l => match (rget r l).bind tgt with
        | some t => a.drop.contains t || (hget σ₀.H t).isNone
        | none => true)) True False
def annOk (a : Ann) (σ : St) (as : List Nat) : Bool := a.new.all (fun l => Nat.ble σ.nx l) && ((a.fix ++ a.keep).all (fun l => (hget σ.H l).isSome) && (a.drop.all (fun l => (hget σ.H l).isSome) && a.slots.all fun s => as.contains s))
def headSt (a : Ann) (σ : St) (as : List Nat) (x : a.X) : St :=
  ⟨setMany (havoc σ.tmps as) a.slots (a.vals x), newH (maxL a.new σ.nx) (a.fix ++ a.new) (a.obs x) (dropH (maxL a.new σ.nx) a.drop σ.H), maxL a.new σ.nx + 1⟩
def invP (a : Ann) (σ : St) (as : List Nat) (f : St → (Ex → St → Prop) → Prop) (Q : Ex → St → Prop) : Prop := ifB (annOk a σ as) (∃ (I : a.X → Prop) (μ : a.X → Nat), (∃ x, I x ∧ atHead a σ σ x) ∧
        ∀ x, I x → f (headSt a σ as x) fun e σ' => match e with
          | .n => ifB (keptH σ.H σ'.H (a.fix ++ a.drop)) (∃ y, I y ∧ μ y < μ x ∧ atHead a σ σ' y) False
          | e => Q e σ') False
def vc : Code → Nat → St → (Ex → St → Prop) → Prop
  | .skip, _, σ, Q => Q .n σ
  | .region _ ops false, _, σ, Q => vcOps P T inl ops ops.toList σ (Q .n)
  | .region _ ops true, _, σ, Q => ifB (okReg P ops) (regA P T inl ops (enum 0 ops.toList) (masks ops.toList []) ops.size (List.replicate ops.size false) σ (Q .n)) False
  | .seq a b, k, σ, Q => vc a k σ fun e σ => match e with
    | .n => vc b k σ Q
    | e => Q e σ
  | .cond c a b, k, σ, Q => match c, ev σ.tmps c with
    | .tmp t, .v (.one (.l (.b x))) => ifB x (vc a k ⟨σ.tmps.set t (.b true), σ.H, σ.nx⟩ Q) (vc b k ⟨σ.tmps.set t (.b false), σ.H, σ.nx⟩ Q)
    | .const _, .v (.one (.l (.b x))) => ifB x (vc a k σ Q) (vc b k σ Q)
    | _, _ => False
  | .block id b, _, σ, Q => vc b id σ fun e σ => match e with
    | .x i => (match Nat.beq i id with
      | true => Q .n σ
      | false => Q (.x i) σ)
    | e => Q e σ
  | .loop b, k, σ, Q => match Lp k with
    | .none => stuck k σ
    | .unroll n => unr (fun σ Q => vc b k σ Q) n σ Q
    | .inv a => invP a σ (asg b) (fun σ Q => vc b k σ Q) Q
    | .alts l => match l.find? fun a => annOk a σ (asg b) with
      | .some a => invP a σ (asg b) (fun σ Q => vc b k σ Q) Q
      | .none => stuck k σ
  | .exit id, _, σ, Q => Q (.x id) σ
  | .ret, _, σ, Q => Q .r σ
  | _, _, _, _ => False
/-- What comes back. -/
def resOf (fn : Func) (σ : St) (K : R → Prop) : Prop := match fn.results.toList with
  | [.tmp t] => K (σ.tmps.getD t .junk)
  | [.cell t ty] => (load P σ.H ty (σ.tmps.getD t .junk)).holds K
  | rs => go rs [] K
where go : List ResultVar → List V → (R → Prop) → Prop
  | [], acc, K => K (.tup acc)
  | .tmp t :: rs, acc, K => match σ.tmps.getD t .junk with
    | .v v => go rs (acc ++ [v]) K
    | _ => False
  | .cell t ty :: rs, acc, K => (load P σ.H ty (σ.tmps.getD t .junk)).holds fun r => match r with
    | .v v => go rs (acc ++ [v]) K
    | _ => False
def startT (fn : Func) (args : List V) : List R := args.map .v ++ List.replicate (fn.ntmps - args.length) .junk
/-- A call walked where it stands. -/
def bodyK (fn : Func) (args : List V) (H : Hp) (nx : Nat) (K : R → Hp → Nat → Prop) : Prop := match fn.body with
  | some b => vc P T inl Lp b 1000000 ⟨startT fn args, H, nx⟩ fun e σ => match e with
    | .n => resOf P fn σ fun r => K r σ.H σ.nx
    | .r => resOf P fn σ fun r => K r σ.H σ.nx
    | .x _ => False
  | none => False
end
/-- Calls walked where they stand, so deep. -/
def inlN (P : Program) (T : FuncId → Option Con) (Lq : FuncId → Nat → Lan) : Nat → FuncId → List V → Hp → Nat → (R → Hp → Nat → Prop) → Prop
  | 0, _, _, _, _, _ => False
  | n + 1, f, args, H, nx, K => match P.funcs[f]? with
    | some fn => bodyK P T (inlN P T Lq n) (Lq f) fn args H nx K
    | none => False
def heap0 (l : List Ob) : Hp := (enum 0 l).map fun q => (q.1, 0, q.2)
def likeOb : Ob → Ob → Bool
  | .cells _, .cells _ => true
  | .row true _ _, .row true _ _ => true
  | .abs _, .abs _ => true
  | _, .gone => true
  | _, _ => false
/-- Only what may be written is told as written; what is new is the caller's own. -/
def outOK (h : List Ob) (out : List (Nat × Ob)) : Bool := out.all fun q => (match q.2 with
  | .gone => true
  | o => ownOb o) && (match h[q.1]? with
  | some o => ownOb o && likeOb o q.2
  | none => true)
/-- What a new label stands for is told under no elder name. -/
def newT (n m : Nat) (r : Rn) (out : List (Nat × Ob)) : Bool := out.all fun q => Nat.blt q.1 m && (Nat.blt q.1 n || match (rget r q.1).bind tgt with
  | some t => Nat.ble n t || out.any fun p => Nat.beq p.1 t
  | none => true)
/-- What a call must come to, in one of the ways told. -/
def anyOut {X : Type} (x : X) (h : List Ob) (r : R) (H : Hp) : List (Outc X) → Prop
  | [] => False
  | [o] => one o
  | o :: os => one o ∨ anyOut x h r H os
where one (o : Outc X) : Prop := ∃ y : o.Y, o.post x y ∧ mtR (idR ((enum 0 h).map (·.1)) (heap0 h)) (o.res x y) r fun r' => mtHp r' H (o.out x y) fun r' =>
      ifB (apartR r' (o.out x y) && (keptH (heap0 h) H ((o.out x y).map (·.1)) && (outOK h (o.out x y) && (newT h.length (h.length + o.nn) r' (o.out x y) && r'.all fun q => Nat.blt q.1 (h.length + o.nn))))) True False
/-- What a function's walk owes. -/
def owes (P : Program) (T : FuncId → Option Con) (Lq : FuncId → Nat → Lan) (n : Nat) (f : FuncId) (fn : Func) (S : Con) : Prop :=
  ∀ x : S.X, S.pre x → bodyK P T (inlN P T Lq n) (Lq f) fn (S.args x) (heap0 (S.heap x)) (S.heap x).length fun r H _ => anyOut x (S.heap x) r H S.outs
end Sx
