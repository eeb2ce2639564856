/- Contracts: laws of layer 20. -/
import Derived.Test.YtcilcmbailoeaaaSpI4p
set_option linter.all false
namespace Sp
open Go Go.Proofs Sx Go.Proofs.Ytcilcmbailoeaaa.Ma
def Aw20 : Con := .pure Unit (fun _ => []) (fun _ => True) fun _ => .b true
def Back4L : Con := .look (Hd × List Int) (fun x => [.agg (hdV x.1), .one (.f 0 x.2.length)]) (fun x => [.row false u8K x.2]) (fun x => wfH x.1 ∧ okB x.2) fun _ => .b true
def Wrong4L : Con := .look (List Int × Int) (fun x => [.one (.f 0 x.1.length), .i .i64 x.2]) (fun x => [.row false u8K x.1]) (fun x => okB x.1) fun _ => .b true
def Long4L : Con := .look (List Int × List Int) (fun x => [.one (.f 0 x.1.length), .one (.f 1 x.2.length)]) (fun x => [.row false u8K x.1, .row false u8K x.2]) (fun x => okB x.1 ∧ okB x.2) fun _ => .b true
def Hops4L : Con := .look (List Int) (fun b => [.one (.f 0 b.length)]) (fun b => [.row false u8K b]) okB fun _ => .b true
def LqL20 : FuncId → Nat → Lan
  | 21, 0 => .inv { X := Int, slots := [12], vals := fun x => [.i .i64 x], fix := [], new := [], drop := [], obs := fun x => [] }
  | 21, 2 => .inv { X := List Int × Bool × Int, slots := [6, 7, 13], vals := fun x => [.a (.f 100 x.1.length), .b x.2.1, .i .i64 x.2.2], fix := [], new := [100], drop := [5], obs := fun x => [.row true u8K x.1] }
  | _, _ => .none
def L20 : List (Nat × Con) := (64, Aw20) :: I4
-- OWES aw20 kedge/kedgelaw20.awake Aw20 I4 LqL20 1
-- OWES back4 kedge/kedgelaw20.Ipv4Back Back4L L20 LqL20 1
-- OWES wrong4 kedge/kedgelaw20.Ipv4Wrong Wrong4L L20 LqL20 1
-- OWES long4 kedge/kedgelaw20.Ipv4Long Long4L L20 LqL20 1
-- OWES hops4 kedge/kedgelaw20.Ipv4Hops Hops4L L20 LqL20 1
end Sp
