/- Contracts: laws of layer 4. -/
import Derived.Test.YtcilcmbailoeaaaSpRp
namespace Sp
open Go Go.Proofs Sx Go.Proofs.Ytcilcmbailoeaaa.Ma
def AwakeS : Con := .pure Unit (fun _ => []) (fun _ => True) fun _ => .b true
def WireBackL : Con := .look (Rt × List Int) (fun x => [.agg (rtV x.1), .one (.f 0 x.2.length)]) (fun x => [.row false u8K x.2]) (fun x => wfR x.1 ∧ okB x.2) fun _ => .b true
def WireApartL : Con := .pure (Rt × Rt) (fun x => [.agg (rtV x.1), .agg (rtV x.2)]) (fun x => wfR x.1 ∧ wfR x.2) fun _ => .b true
def WireAllL : Con := .look (List Rt × List Int) (fun x => [.one (.f 0 x.1.length), .one (.f 1 x.2.length)]) (fun x => [.row false rtK x.1, .row false u8K x.2]) (fun x => (∀ r ∈ x.1, wfR r) ∧ okB x.2) fun _ => .b true
def WireIsL : Con := .look (List Int × Rt) (fun x => [.one (.f 0 x.1.length), .agg (rtV x.2)]) (fun x => [.row false u8K x.1]) (fun x => okB x.1 ∧ wfR x.2) fun _ => .b true
def LqL : FuncId → Nat → Lan
  | 20, _ => .inv { X := Int × List Rt, slots := [7, 6], vals := fun x => [.i .i64 x.1, .a (.f 3 x.2.length)], fix := [], new := [3], drop := [], obs := fun x => [.row true rtK x.2] }
  | _, _ => .none
def L04 : List (Nat × Con) := (42, AwakeS) :: R6
-- OWES awake kedge/kedgelaw04.awake AwakeS R6 LqL 0
-- OWES back kedge/kedgelaw04.WireBack WireBackL L04 LqL 0
-- OWES apart kedge/kedgelaw04.WireApart WireApartL L04 LqL 0
-- OWES all kedge/kedgelaw04.WireAll WireAllL L04 LqL 0
-- OWES is kedge/kedgelaw04.WireIs WireIsL L04 LqL 0
end Sp
