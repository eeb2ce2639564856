/- Contracts: two stretches in order made one. -/
import Derived.Test.YtcilcmbailoeaaaSpVp
set_option linter.all false
namespace Sp
open Go Go.Proofs Sx Go.Proofs.Ytcilcmbailoeaaa.Ma
def Y1 (n : Nat) : List (Nat × Con) := (149, SymS 140 key1 n) :: V1
def Y0 (n : Nat) : List (Nat × Con) := (149, SymS 139 key0 n) :: V1
-- GEN vsym key1 key (key : En → Int)
-- BIND vsym n Nat
-- SAMEAS vsym0 vsym key0 slices.symMergeCmpFunc[kedge/victim.Entry] (SymS_139_key0_(n+1)) (Y0_n) LqV 0
-- OWES vsym slices.symMergeCmpFunc[kedge/victim.Entry] (SymS_140_key1_(n+1)) (Y1_n) LqV 0
end Sp
