/- Contracts: the laws of layer 11. -/
import Derived.Test.YthnhbnakpmkppaaSpKp
import Derived.Test.YthnhbnakpmkppaaSpKm
set_option linter.all false
namespace Sp
open Go Go.Proofs Sx Go.Proofs.Ythnhbnakpmkppaa.Ma
@[reducible] def pf4K : List Kd := [.i .u64, .i .u64, .b, .i .i64]
@[reducible] def actK : List Kd := [.b, .i .u64, .i .u64, .b, .i .i64]
def AwakeZ : Con := .pure Unit (fun _ => []) (fun _ => True) fun _ => .b true
def NoneL : Con := .pure Pf (fun p => [.agg (pfV p)]) wfP fun _ => .b true
def LeastL : Con := .look (Int × Int × List Pf × Pf) (fun x => [.i .i64 x.1, .i .i64 x.2.1, .one (.f 0 x.2.2.1.length), .agg (pfV x.2.2.2)]) (fun x => [.row false pf4K x.2.2.1]) (fun x => wfP x.2.2.2 ∧ ∀ q ∈ x.2.2.1, wfP q) fun _ => .b true
def FullL : Con := .pure (Int × Int × Pf) (fun x => [.i .i64 x.1, .i .i64 x.2.1, .agg (pfV x.2.2)]) (fun x => wfP x.2.2) fun _ => .b true
def ApartL : Con := .look (Int × Int × List (Bool × Pf) × Pf) (fun x => [.i .i64 x.1, .i .i64 x.2.1, .one (.f 0 x.2.2.1.length), .agg (pfV x.2.2.2)]) (fun x => [.row false actK x.2.2.1]) (fun x => wfP x.2.2.2 ∧ ∀ q ∈ x.2.2.1, wfP q.2) fun _ => .b true
def S2 : List (Nat × Con) := (22, RowsS) :: S1
def S3 : List (Nat × Con) := (12, AwakeZ) :: S2
def Sn : List (Nat × Con) := [(12, AwakeZ), (70, SaneZ)]
def LqL11 : FuncId → Nat → Lan
  | 4, _ => .unroll 3
  | 15, _ => .unroll 1
  | 5, _ => .inv { X := Int × Int × Int × LI, slots := [13, 11, 12], vals := fun x => [.i .i64 x.1, .i .i64 x.2.1, .i .i64 x.2.2.1], fix := [4], new := [], drop := [], obs := fun x => [.row true u8K x.2.2.2] }
  | 6, 0 => .inv { X := Int × LI, slots := [9], vals := fun x => [.i .i64 x.1], fix := [3], new := [], drop := [], obs := fun x => [.row true u8K x.2] }
  | 6, _ => .inv { X := Int × LI, slots := [11], vals := fun x => [.i .i64 x.1], fix := [3], new := [], drop := [], obs := fun x => [.row true u8K x.2] }
  | 7, _ => .inv { X := Int × LI, slots := [11], vals := fun x => [.i .i64 x.1], fix := [4], new := [], drop := [], obs := fun x => [.row true u8K x.2] }
  | _, _ => .none
-- OWES wake11 kedge/kedgelaw11.awake AwakeZ S2 LqL11 0
-- OWES none11 kedge/kedgelaw11.SketchNone NoneL Sn LqL11 2
-- OWES least11 kedge/kedgelaw11.SketchLeast LeastL S3 LqL11 0
-- OWES full11 kedge/kedgelaw11.SketchFull FullL S3 LqL11 0
-- OWES apart11 kedge/kedgelaw11.SketchApart ApartL S3 LqL11 0
end Sp
