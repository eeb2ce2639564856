/- Contracts: addresses, prefixes. -/
import Derived.Test.YthnhbnakpmkppaaSx4
import Derived.Test.YthnhbnakpmkppaaProg
import Derived.Test.YthnhbnakpmkppaaMa
set_option linter.all false
namespace Sp
open Go Go.Proofs Sx Go.Proofs.Ythnhbnakpmkppaa.Ma
def HighS : Con := .pure Nat (fun n => [.i .i64 (n : Int)]) (fun n => n ≤ 64) fun n => .i .u64 (topN n : Int)
def wid (v6 : Bool) : Int := if v6 = true then 128 else 32
def c0 (v6 : Bool) : Nat := if v6 = true then 64 else 32
def c1 (v6 : Bool) : Nat := if v6 = true then 64 else 0
def clamp (v6 : Bool) (n : Int) : Nat := (max 0 (min n (wid v6))).toNat
def ok64 (n : Nat) : Prop := n < 18446744073709551616
def WidthS : Con := .pure Bool (fun b => [.b b]) (fun _ => True) fun b => .i .i64 (wid b)
def OnesS : Con := .pure (Nat × Bool) (fun x => [.i .i64 (x.1 : Int), .i .i64 (wid x.2)]) (fun x => (x.1 : Int) ≤ wid x.2) fun x => .v (.agg [.l (.i .u64 (onesN (c0 x.2) (min x.1 64) : Nat)), .l (.i .u64 (onesN (c1 x.2) (x.1 - 64) : Nat))])
@[reducible] def aV (x : Nat × Nat × Bool) : List A := [.l (.i .u64 (x.1 : Nat)), .l (.i .u64 (x.2.1 : Nat)), .l (.b x.2.2)]
def ReadS : Con := .pure (Nat × Nat × Bool) (fun x => [.agg (aV x)]) (fun x => ok64 x.1 ∧ ok64 x.2.1) fun x => .v (.agg [.l (.i .u64 (keepN x.1 (c0 x.2.2) : Nat)), .l (.i .u64 (keepN x.2.1 (c1 x.2.2) : Nat))])
def TailS : Con := .pure ((Nat × Nat × Bool) × Int) (fun x => [.agg (aV x.1), .i .i64 x.2]) (fun x => True) fun x => .v (.agg [.l (.i .u64 (onesN (c0 x.1.2.2) (min (clamp x.1.2.2 x.2) 64) : Nat)), .l (.i .u64 (onesN (c1 x.1.2.2) (clamp x.1.2.2 x.2 - 64) : Nat))])
def MaskS : Con := .pure ((Nat × Nat × Bool) × Int) (fun x => [.agg (aV x.1), .i .i64 x.2]) (fun x => ok64 x.1.1 ∧ ok64 x.1.2.1) fun x => .v (.agg (aV (keepN x.1.1 (min (clamp x.1.2.2 x.2) 64), keepN x.1.2.1 (clamp x.1.2.2 x.2 - 64), x.1.2.2)))
@[reducible] def pV (x : (Nat × Nat × Bool) × Int) : List A := aV x.1 ++ [.l (.i .i64 x.2)]
def ofP (a : Nat × Nat × Bool) (n : Int) : (Nat × Nat × Bool) × Int := ((keepN a.1 (min (clamp a.2.2 n) 64), keepN a.2.1 (clamp a.2.2 n - 64), a.2.2), (clamp a.2.2 n : Nat))
def OfS : Con := .pure ((Nat × Nat × Bool) × Int) (fun x => [.agg (aV x.1), .i .i64 x.2]) (fun x => ok64 x.1.1 ∧ ok64 x.1.2.1) fun x => .v (.agg (pV (ofP x.1 x.2)))
def saneB (p : (Nat × Nat × Bool) × Int) : Bool := decide (p = ofP p.1 p.2)
def SaneS : Con := .pure ((Nat × Nat × Bool) × Int) (fun x => [.agg (pV x)]) (fun x => ok64 x.1.1 ∧ ok64 x.1.2.1) fun x => .b (saneB x)
def Lq : FuncId → Nat → Lan
  | 153, _ => .unroll 3
  | 124, _ => .unroll 3
  | 105, _ => .unroll 3
  | _, _ => .none
def L0 : List (Nat × Con) := []
def L1 : List (Nat × Con) := (173, HighS) :: L0
def L2 : List (Nat × Con) := (104, WidthS) :: L1
def L3 : List (Nat × Con) := (153, OnesS) :: L2
def L4 : List (Nat × Con) := (124, ReadS) :: L3
def L5 : List (Nat × Con) := (143, TailS) :: L4
def L6 : List (Nat × Con) := (105, MaskS) :: L5
def L7 : List (Nat × Con) := (57, OfS) :: L6
def L8 : List (Nat × Con) := (70, SaneS) :: L7
-- OWES high kedge/addr.high HighS L0 Lq 0
-- OWES width kedge/addr.Width WidthS L0 Lq 0
-- OWES ones kedge/addr.ones OnesS L2 Lq 0
-- OWES read kedge/addr.read ReadS L3 Lq 0
-- OWES tail kedge/addr.tail TailS L3 Lq 0
-- OWES mask kedge/addr.Mask MaskS L5 Lq 1
-- OWES of kedge/prefix.Of OfS L6 Lq 1
-- OWES sane kedge/prefix.Sane SaneS L7 Lq 1
end Sp
