/- Contracts: which one has to go; slices.SortStableFunc. -/
import Derived.Test.YtcilcmbailoeaaaSpWp
import Derived.Test.YtcilcmbailoeaaaSpVic
set_option linter.all false
namespace Sp
open Go Go.Proofs Sx Go.Proofs.Ytcilcmbailoeaaa.Ma
@[reducible] def enV (e : En) : List A := [.l (.i .i64 e.1), .l (.i .i64 e.2)]
@[reducible] def enK : List Kd := [.i .i64, .i .i64]
def CmpIS : Con := .pure (Int × Int) (fun x => [.i .i64 x.1, .i .i64 x.2]) (fun _ => True) fun x => .i .i64 (if x.1 < x.2 then -1 else if x.2 < x.1 then 1 else 0)
def CmpS (key : En → Int) : Con := .pure (En × En) (fun x => [.agg (enV x.1), .agg (enV x.2)]) (fun _ => True) fun x => .i .i64 (cmpK key x.1 x.2)
/-- A contract that turns a row of its own, label 0, and tells nothing. -/
@[reducible] def turnS (X : Type) (args : X → List V) (row : X → List En) (pre : X → Prop) (post : X → List En → Prop) : Con :=
  { X := X, args := args, heap := fun x => [.row true enK (row x)], pre := pre, outs := [{ Y := List En, post := post, res := fun _ _ => .tup [], out := fun _ ys => [(0, .row true enK ys)], nn := 0 }] }
def SwapS : Con := turnS (List En × Nat × Nat × Nat) (fun x => [.one (.f 0 x.1.length), .i .i64 (x.2.1 : Int), .i .i64 (x.2.2.1 : Int), .i .i64 (x.2.2.2 : Int), .one .junk]) (fun x => x.1) (fun x => x.2.1 + x.2.2.2 ≤ x.2.2.1 ∧ x.2.2.1 + x.2.2.2 ≤ x.1.length ∧ x.1.length ≤ most) fun x ys => ys = swapL x.1 x.2.1 x.2.2.1 x.2.2.2
def RotS : Con := turnS (List En × Nat × Nat × Nat) (fun x => [.one (.f 0 x.1.length), .i .i64 (x.2.1 : Int), .i .i64 (x.2.2.1 : Int), .i .i64 (x.2.2.2 : Int), .one .junk]) (fun x => x.1) (fun x => x.2.1 < x.2.2.1 ∧ x.2.2.1 < x.2.2.2 ∧ x.2.2.2 ≤ x.1.length ∧ x.1.length ≤ most) fun x ys => ys = rotL x.1 x.2.1 x.2.2.1 x.2.2.2
def InsS (f : Nat) (key : En → Int) : Con := turnS (List En × Nat × Nat) (fun x => [.one (.f 0 x.1.length), .i .i64 (x.2.1 : Int), .i .i64 (x.2.2 : Int), .one (.fn f [])]) (fun x => x.1) (fun x => x.2.1 ≤ x.2.2 ∧ x.2.2 ≤ x.1.length ∧ x.1.length ≤ most) fun x ys => SSR key x.2.1 x.2.2 x.1 ys
def SymS (f : Nat) (key : En → Int) (n : Nat) : Con := turnS (List En × Nat × Nat × Nat) (fun x => [.one (.f 0 x.1.length), .i .i64 (x.2.1 : Int), .i .i64 (x.2.2.1 : Int), .i .i64 (x.2.2.2 : Int), .one (.fn f [])]) (fun x => x.1) (fun x => x.2.1 < x.2.2.1 ∧ x.2.2.1 < x.2.2.2 ∧ x.2.2.2 ≤ x.1.length ∧ x.1.length ≤ most ∧ x.2.2.2 ≤ x.2.1 + n ∧ SortedK key (mids x.1 x.2.1 x.2.2.1) ∧ SortedK key (mids x.1 x.2.2.1 x.2.2.2)) fun x ys => SSR key x.2.1 x.2.2.2 x.1 ys
def StabS (f : Nat) (key : En → Int) : Con := turnS (List En) (fun x => [.one (.f 0 x.length), .i .i64 (x.length : Int), .one (.fn f [])]) (fun x => x) (fun x => x.length ≤ most) fun x ys => SSR key 0 x.length x ys
def SortS (f : Nat) (key : En → Int) : Con := turnS (List En) (fun x => [.one (.f 0 x.length), .one (.fn f [])]) (fun x => x) (fun x => x.length ≤ most) fun x ys => SSR key 0 x.length x ys
def RevS : Con := turnS (List En) (fun x => [.one (.f 0 x.length)]) (fun x => x) (fun x => x.length ≤ most) fun x ys => ys = x.reverse
def V0 : List (Nat × Con) := [(141, CmpIS), (151, SwapS), (143, RevS), (142, CloneS enK)]
def V1 : List (Nat × Con) := (139, CmpS key0) :: (140, CmpS key1) :: (150, RotS) :: V0
@[reducible] def rowAnn (slots : List Nat) (X : Type) (vals : X → List R) (row : X → List En) : Lan := .inv { X := X, slots := slots, vals := vals, fix := [0], new := [], drop := [], obs := fun x => [.row true enK (row x)] }
@[reducible] def numAnn (slots : List Nat) (X : Type) (vals : X → List R) : Lan := .inv { X := X, slots := slots, vals := vals, fix := [], new := [], drop := [], obs := fun _ => [] }
def LqV : FuncId → Nat → Lan
  | 151, _ => rowAnn [10] (Int × List En) (fun x => [.i .i64 x.1]) fun x => x.2
  | 150, _ => rowAnn [10, 11] (Int × Int × List En) (fun x => [.i .i64 x.1, .i .i64 x.2.1]) fun x => x.2.2
  | 143, _ => rowAnn [2, 3] (Int × Int × List En) (fun x => [.i .i64 x.1, .i .i64 x.2.1]) fun x => x.2.2
  | 148, 0 => rowAnn [8] (Int × List En) (fun x => [.i .i64 x.1]) fun x => x.2
  | 148, _ => rowAnn [9] (Int × List En) (fun x => [.i .i64 x.1]) fun x => x.2
  | 149, 0 => numAnn [10, 11] (Int × Int) fun x => [.i .i64 x.1, .i .i64 x.2]
  | 149, 2 => rowAnn [13] (Int × List En) (fun x => [.i .i64 x.1]) fun x => x.2
  | 149, 4 => numAnn [14, 15] (Int × Int) fun x => [.i .i64 x.1, .i .i64 x.2]
  | 149, 6 => rowAnn [17] (Int × List En) (fun x => [.i .i64 x.1]) fun x => x.2
  | 149, _ => numAnn [20, 21] (Int × Int) fun x => [.i .i64 x.1, .i .i64 x.2]
  | 147, 0 => rowAnn [7, 8] (Int × Int × List En) (fun x => [.i .i64 x.1, .i .i64 x.2.1]) fun x => x.2.2
  | 147, 2 => rowAnn [6] (Int × List En) (fun x => [.i .i64 x.1]) fun x => x.2
  | 147, _ => rowAnn [7, 8] (Int × Int × List En) (fun x => [.i .i64 x.1, .i .i64 x.2.1]) fun x => x.2.2
  | _, _ => .none
-- OWES cmpi cmp.Compare[int] CmpIS W0 LqV 1
-- OWES vswap slices.swapRangeCmpFunc[kedge/victim.Entry] SwapS W0 LqV 0
-- OWES vrev slices.Reverse[[]kedge/victim.Entry,kedge/victim.Entry] RevS W0 LqV 0
-- OWES vclone slices.Clone[[]kedge/victim.Entry,kedge/victim.Entry] (CloneS_enK) W0 LqV 0
-- OWES cmp0 kedge/victim.of$1 (CmpS_key0) V0 LqV 0
-- OWES cmp1 kedge/victim.of$2 (CmpS_key1) V0 LqV 0
-- OWES vrot slices.rotateCmpFunc[kedge/victim.Entry] RotS V0 LqV 0
-- GEN vins key1 key (key : En → Int)
-- SAMEAS vins0 vins key0 slices.insertionSortCmpFunc[kedge/victim.Entry] (InsS_139_key0) V1 LqV 0
-- OWES vins slices.insertionSortCmpFunc[kedge/victim.Entry] (InsS_140_key1) V1 LqV 0
end Sp
