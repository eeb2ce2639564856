/- Contracts: the document's answer for layer 21; the law that asks it. -/
import Derived.Test.YtcilcmbailoeaaaSpRp
import Derived.Test.YtcilcmbailoeaaaSpL21p
set_option linter.all false
namespace Sp
open Go Go.Proofs Sx Go.Proofs.Ytcilcmbailoeaaa.Ma
def K0 : List (Nat × Con) := (118, FromS) :: (119, BytesS) :: L21
def K1 : List (Nat × Con) := (81, Parse6S) :: (126, Whole6S) :: K0
def K2 : List (Nat × Con) := (83, Hop6S) :: (87, Build6S) :: K1
def Is6L : Con := .look (List Int × H6 × List Int) (fun x => [.one (.f 0 x.1.length), .agg (h6V x.2.1), .one (.f 1 x.2.2.length)]) (fun x => [.row false u8K x.1, .row false u8K x.2.2]) (fun x => okB x.1 ∧ wfH6 x.2.1 ∧ okB x.2.2) fun _ => .b true
-- OWES rparse6 kedge/kedgeref21.Parse Parse6S K0 LqL21 0
-- OWES rsixteen kedge/kedgeref21.sixteen Whole6S K0 LqL21 0
-- OWES rhop6 kedge/kedgeref21.Hop Hop6S K1 LqL21 0
-- OWES rbuild6 kedge/kedgeref21.Build Build6S K1 LqL21 0
-- OWES is6 kedge/kedgelaw21.Ipv6Is Is6L K2 LqL21 1
end Sp
