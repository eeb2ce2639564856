/- Contracts: rows of counts. -/
import Derived.Test.YthnhbnakpmkppaaSpWp
import Derived.Test.YthnhbnakpmkppaaSpRp
set_option linter.all false
namespace Sp
open Go Go.Proofs Sx Go.Proofs.Ythnhbnakpmkppaa.Ma
def hstep (h c : Int) : Int := bits .xor .u64 h c * 1099511628211 % 18446744073709551616
def hashP (row : Int) (p : Pf) : Int := ((max row 0 % 256) :: putP p).foldl hstep 14695981039346656037
def HashS : Con := .pure (Int × Pf) (fun x => [.i .i64 x.1, .agg (pfV x.2)]) (fun x => wfP x.2) fun x => .i .u64 (hashP x.1 x.2)
/-- Counts, and how wide a row is. -/
abbrev Sk := List Int × Int
@[reducible] def skC (a : Nat) (s : Sk) : Ob := .cells [.f a s.1.length, .l (.i .i64 s.2)]
structure okK (s : Sk) : Prop where
  w : 1 ≤ s.2 ∧ s.2 ≤ 256
  l : ∃ r : Nat, 1 ≤ r ∧ r ≤ 4 ∧ (s.1.length : Int) = r * s.2
  c : ∀ x ∈ s.1, 0 ≤ x ∧ x ≤ 255
def rowsK (s : Sk) : Nat := ((s.1.length : Int) / s.2).toNat
def posK (s : Sk) (p : Pf) (k : Nat) : Nat := (k * s.2 + hashP k p % s.2).toNat
def incK (l : List Int) (i : Nat) : List Int := l.set i (min 255 (l.getD i 0 + 1))
def addK (s : Sk) (p : Pf) : Sk := if saneP p = true then ((List.range (rowsK s)).foldl (fun l k => incK l (posK s p k)) s.1, s.2) else s
def countK (s : Sk) (p : Pf) : Int := if saneP p = true then (List.range (rowsK s)).foldl (fun n k => min n (s.1.getD (posK s p k) 0)) 255 else 0
def decK (s : Sk) : Sk := (s.1.map (· / 2), s.2)
def rowsN (r : Int) : Int := max 1 (min r 4)
def widN (w : Int) : Int := max 1 (min w 256)
def newK (r w : Int) : Sk := (List.replicate (rowsN r * widN w).toNat 0, widN w)
def NewS : Con := { X := Int × Int, args := fun x => [.i .i64 x.1, .i .i64 x.2], heap := fun _ => [], pre := fun _ => True, outs := [{ Y := Unit, post := fun _ _ => True, res := fun _ _ => .a (.p 0 0), out := fun x _ => [(0, skC 1 (newK x.1 x.2)), (1, .row true u8K (newK x.1 x.2).1)], nn := 2 }] }
def AddS : Con := { X := Sk × Pf, args := fun x => [.one (.p 0 0), .agg (pfV x.2)], heap := fun x => [skC 1 x.1, .row true u8K x.1.1], pre := fun x => okK x.1 ∧ wfP x.2, outs := [{ Y := Unit, post := fun _ _ => True, res := fun x _ => .b (saneP x.2), out := fun x _ => [(1, .row true u8K (addK x.1 x.2).1)], nn := 0 }] }
def CountS : Con := .look (Sk × Pf) (fun x => [.one (.p 0 0), .agg (pfV x.2)]) (fun x => [skC 1 x.1, .row false u8K x.1.1]) (fun x => okK x.1 ∧ wfP x.2) fun x => .i .i64 (countK x.1 x.2)
def DecayS : Con := { X := Sk, args := fun _ => [.one (.p 0 0)], heap := fun x => [skC 1 x, .row true u8K x.1], pre := okK, outs := [{ Y := Unit, post := fun _ _ => True, res := fun _ _ => .tup [], out := fun x _ => [(1, .row true u8K (decK x).1)], nn := 0 }] }
def S0 : List (Nat × Con) := (23, HashS) :: R4
def S1 : List (Nat × Con) := (13, NewS) :: (17, AddS) :: (19, CountS) :: (15, DecayS) :: S0
def LqS : FuncId → Nat → Lan
  | 50, 0 => .unroll 3
  | 50, _ => .inv { X := Int × Int, slots := [16, 3], vals := fun x => [.i .i64 x.1, .i .u64 x.2], fix := [], new := [], drop := [], obs := fun _ => [] }
  | 46, _ => .inv { X := Int × List Int, slots := [33], vals := fun x => [.i .i64 x.1], fix := [1], new := [], drop := [], obs := fun x => [.row true u8K x.2] }
  | 15, _ => .inv { X := Int × List Int, slots := [10], vals := fun x => [.i .i64 x.1], fix := [1], new := [], drop := [], obs := fun x => [.row true u8K x.2] }
  | _, _ => .none
def LqSc : FuncId → Nat → Lan
  | 46, _ => .inv { X := Int × Int, slots := [33], vals := fun x => [.i .i64 x.1], fix := [3], new := [], drop := [], obs := fun x => [.cells [.l (.i .i64 x.2)]] }
  | _, _ => .none
-- OWES hash kedge/sketch.Hash HashS R4 LqS 1
-- OWES snew kedge/sketch.New NewS S0 LqS 0
-- OWES sadd (*kedge/sketch.Sketch).Add AddS S0 LqS 2
-- OWES scount (*kedge/sketch.Sketch).Count CountS S0 LqSc 2
-- OWES sdecay (*kedge/sketch.Sketch).Decay DecayS S0 LqS 0
end Sp
