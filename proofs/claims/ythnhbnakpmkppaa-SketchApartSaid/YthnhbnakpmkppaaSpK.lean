/- Contracts: rows of counts told one by one. -/
import Derived.Test.YthnhbnakpmkppaaSpSp
set_option linter.all false
namespace Sp
open Go Go.Proofs Sx Go.Proofs.Ythnhbnakpmkppaa.Ma
/-- Of the first so many counts: those in a row. -/
def pieceK (s : Sk) (k i : Nat) : List Int := ((s.1.take k).drop (i * s.2.toNat)).take s.2.toNat
def rowK (s : Sk) (i : Nat) : List Int := pieceK s s.1.length i
def RowsO (n : Nat) (cs : Sk → List A) (rs : Sk → List (Nat × Ob)) : Outc Sk := { Y := Unit, post := fun s _ => rowsK s = n, res := fun _ _ => .a (.f 2 n), out := fun s _ => (2, .crow 1 n (cs s)) :: rs s, nn := n + 1 }
@[reducible] def rwO (s : Sk) (i : Nat) : Nat × Ob := (3 + i, .row true intK (rowK s i))
@[reducible] def rwA (s : Sk) (i : Nat) : A := .f (3 + i) (rowK s i).length
def RowsS : Con := { X := Sk, args := fun _ => [.one (.p 0 0)], heap := fun x => [skC 1 x, .row false u8K x.1], pre := okK, outs := [RowsO 1 (fun s => [rwA s 0]) (fun s => [rwO s 0]), RowsO 2 (fun s => [rwA s 0, rwA s 1]) (fun s => [rwO s 0, rwO s 1]),
  RowsO 3 (fun s => [rwA s 0, rwA s 1, rwA s 2]) (fun s => [rwO s 0, rwO s 1, rwO s 2]), RowsO 4 (fun s => [rwA s 0, rwA s 1, rwA s 2, rwA s 3]) (fun s => [rwO s 0, rwO s 1, rwO s 2, rwO s 3])] }
abbrev LI := List Int
def LqK : FuncId → Nat → Lan
  | 22, _ => .many [
    { X := Int, slots := [21, 3], vals := fun x => [.i .i64 x, .a .ns], fix := [], new := [], drop := [], obs := fun _ => [] },
    { X := Int × LI, slots := [21, 3], vals := fun x => [.i .i64 x.1, .a (.f 20 1)], fix := [], new := [20, 21], drop := [], obs := fun x => [.crow 1 1 [.f 21 x.2.length], .row true intK x.2] },
    { X := Int × LI × LI, slots := [21, 3], vals := fun x => [.i .i64 x.1, .a (.f 20 2)], fix := [], new := [20, 21, 22], drop := [], obs := fun x => [.crow 1 2 [.f 21 x.2.1.length, .f 22 x.2.2.length], .row true intK x.2.1, .row true intK x.2.2] },
    { X := Int × LI × LI × LI, slots := [21, 3], vals := fun x => [.i .i64 x.1, .a (.f 20 3)], fix := [], new := [20, 21, 22, 23], drop := [], obs := fun x => [.crow 1 3 [.f 21 x.2.1.length, .f 22 x.2.2.1.length, .f 23 x.2.2.2.length], .row true intK x.2.1, .row true intK x.2.2.1, .row true intK x.2.2.2] },
    { X := Int × LI × LI × LI × LI, slots := [21, 3], vals := fun x => [.i .i64 x.1, .a (.f 20 4)], fix := [], new := [20, 21, 22, 23, 24], drop := [], obs := fun x => [.crow 1 4 [.f 21 x.2.1.length, .f 22 x.2.2.1.length, .f 23 x.2.2.2.1.length, .f 24 x.2.2.2.2.length], .row true intK x.2.1, .row true intK x.2.2.1, .row true intK x.2.2.2.1, .row true intK x.2.2.2.2] }]
  | _, _ => .none
-- OWES srows (*kedge/sketch.Sketch).Rows RowsS S0 LqK 0
end Sp
