/- Contracts: sorted stably. -/
import Derived.Test.YtcilcmbailoeaaaSpYq
set_option linter.all false
namespace Sp
open Go Go.Proofs Sx Go.Proofs.Ytcilcmbailoeaaa.Ma
def Z1 : List (Nat × Con) := (149, SymS 140 key1 most) :: (148, InsS 140 key1) :: V1
def Z0 : List (Nat × Con) := (149, SymS 139 key0 most) :: (148, InsS 139 key0) :: V1
-- GEN vstab key1 key (key : En → Int)
-- SAMEAS vstab0 vstab key0 slices.stableCmpFunc[kedge/victim.Entry] (StabS_139_key0) Z0 LqV 0
-- OWES vstab slices.stableCmpFunc[kedge/victim.Entry] (StabS_140_key1) Z1 LqV 0
end Sp
