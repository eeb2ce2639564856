/- Contracts: laws of layer 21. -/
import Derived.Test.YtcilcmbailoeaaaSpI6p
set_option linter.all false
namespace Sp
open Go Go.Proofs Sx Go.Proofs.Ytcilcmbailoeaaa.Ma
def Aw21 : Con := .pure Unit (fun _ => []) (fun _ => True) fun _ => .b true
def Back6L : Con := .look (H6 × List Int) (fun x => [.agg (h6V x.1), .one (.f 0 x.2.length)]) (fun x => [.row false u8K x.2]) (fun x => wfH6 x.1 ∧ okB x.2) fun _ => .b true
def Wrong6L : Con := .look (List Int × Int) (fun x => [.one (.f 0 x.1.length), .i .u8 x.2]) (fun x => [.row false u8K x.1]) (fun x => okB x.1 ∧ 0 ≤ x.2 ∧ x.2 ≤ 255) fun _ => .b true
def Short6L : Con := .look (List Int × List Int) (fun x => [.one (.f 0 x.1.length), .one (.f 1 x.2.length)]) (fun x => [.row false u8K x.1, .row false u8K x.2]) (fun x => okB x.1 ∧ okB x.2) fun _ => .b true
def Hops6L : Con := .look (List Int) (fun b => [.one (.f 0 b.length)]) (fun b => [.row false u8K b]) okB fun _ => .b true
def LqL21 : FuncId → Nat → Lan
  | 24, 0 => .inv { X := Int, slots := [8], vals := fun x => [.i .i64 x], fix := [], new := [], drop := [], obs := fun x => [] }
  | 24, 2 => .inv { X := List Int × Bool × Int, slots := [6, 7, 9], vals := fun x => [.a (.f 100 x.1.length), .b x.2.1, .i .i64 x.2.2], fix := [], new := [100], drop := [5], obs := fun x => [.row true u8K x.1] }
  | _, _ => .none
def L21 : List (Nat × Con) := (79, Aw21) :: J3
-- OWES aw21 kedge/kedgelaw21.awake Aw21 J3 LqL21 1
-- OWES back6 kedge/kedgelaw21.Ipv6Back Back6L L21 LqL21 1
-- OWES wrong6 kedge/kedgelaw21.Ipv6Wrong Wrong6L L21 LqL21 1
-- OWES short6 kedge/kedgelaw21.Ipv6Short Short6L L21 LqL21 1
-- OWES hops6 kedge/kedgelaw21.Ipv6Hops Hops6L L21 LqL21 1
end Sp
