-- Written by kprint.py, a program of this session, over the kit's print.py; functions marked HAND are our own texts.
import Derived.Test.YtcilcmbailoeaaaProg
import Derived.Below
import Derived.Deep.Draws
import Derived.Deep.AppendLies
import Derived.Maps.AppendAt
import Derived.OwnWalk
import Derived.Laws.BytesArg
import Derived.Laws.MakeOwn
import Derived.Laws.OwnMore
import Derived.Deep.OwnRows
import Derived.Tactics
import Derived.Lib.ConvBytes
import Derived.Laws.Slices
import Derived.WalkKit
import Derived.KernelRfl
import Derived.RowKit3
import Derived.Deep.LoopGhost
import Derived.Deep.QuietTactic
import Derived.BigQuiet
import Derived.WideLaws
import Derived.Deep.DeepCutAuto
import Derived.Deep.CutBlock
import Derived.Deep.RegionHeld3
import Derived.Laws.Rows
import Derived.Lib.AppendStr
import Derived.ArgAppend
import Derived.Laws.IdiomCopy
import Derived.OrdersHeld
import Derived.Laws.BitsLemmas
import Derived.RowKit
import Derived.Lib.Hide
import Derived.OneCell
import Derived.Laws.BitsAllLaws
import Derived.IntWalk
import Derived.Deep.RegionWith
import Derived.Lib.SliceRun
import Derived.WalkSpells
import Derived.Laws.CopyOwn
import Derived.Test.YtcilcmbailoeaaaWWords
import Derived.Test.YtcilcmbailoeaaaWLast
import Derived.Test.YtcilcmbailoeaaaWTab
import Derived.Test.YtcilcmbailoeaaaWFour
import Derived.Test.YtcilcmbailoeaaaWQPut
import Derived.Test.YtcilcmbailoeaaaWApart
import Derived.Test.YtcilcmbailoeaaaWArr
import Derived.Test.YtcilcmbailoeaaaWZeros
import Derived.Test.YtcilcmbailoeaaaWFoot
import Derived.Test.YtcilcmbailoeaaaWKept
import Derived.Test.YtcilcmbailoeaaaWShare
import Derived.Test.YtcilcmbailoeaaaWN
import Derived.Test.YtcilcmbailoeaaaWFootNe
import Derived.Test.YtcilcmbailoeaaaWAt
import Derived.Test.YtcilcmbailoeaaaWEqStruct
import Derived.Test.YtcilcmbailoeaaaWRepsOne
import Derived.Test.YtcilcmbailoeaaaWInv
import Derived.Test.YtcilcmbailoeaaaWInvWords
import Derived.Test.YtcilcmbailoeaaaWGuard
import Derived.Test.YtcilcmbailoeaaaWNEv
import Derived.Test.YtcilcmbailoeaaaWMore
namespace Go.Proofs.Ytcilcmbailoeaaa.KS
open Go.RowKit Go.Proofs.YtcilcmbailoeaaaW.PrintWords Go.Proofs.YtcilcmbailoeaaaW.PrintLast Go.Proofs.YtcilcmbailoeaaaW.PrintMore
attribute [local go_sem] max2_int min2_int max_two min_two max_three min_three max_four min_four   -- for this text's walks alone
set_option linter.unusedVariables false
set_option linter.unusedSimpArgs false



def errW : Option Int → Value
  | none => .nilIface
  | some c => .iface 0 (.int .i64 c)
theorem errW_none : errW none = .nilIface := rfl
theorem errW_some (c : Int) : errW (some c) = .iface 0 (.int .i64 c) := rfl

theorem info5 : (Try.prog.info? 5).map (fun i => (i.zero, i.size, i.bytes)) = some (some (.int .u8 0), 1, 1) := by kernel_rfl
-- the values' own types
def rd_L1 (xs : List (List Int)) (i : Int) : (List Int) := xs.getD i.toNat ([] : List Int)
theorem at_L1 {w : World} {A : Option Addr} {n : Nat} {xs : List (List Int)} (h : Kd.C (Kd.slice 5 (Kd.int .u8)) w A n xs) (i : Int) (h0 : 0 ≤ i) (h1 : i < n) : ∃ ad A0 c0, A = some ad ∧ w.cell? (ad.add i.toNat) = some (.slice A0 (rd_L1 xs i).length c0) ∧ (rd_L1 xs i).length ≤ c0 ∧ (Kd.int .u8).C w A0 (rd_L1 xs i).length (rd_L1 xs i) := by
  obtain ⟨ad, c, e, _, hK, hc0⟩ := Kd.C_get h ([] : List Int) i h0 h1
  have hc : ∀ j u, c[j]? = some u → w.cell? (ad.add (i.toNat * 1 + j)) = some u := hc0
  obtain ⟨A0, c0, rfl, l0, g0⟩ := hK
  exact ⟨ad, A0, c0, e, by have hq := hc 0 _ rfl; rwa [Nat.mul_one, Nat.add_zero] at hq, l0, g0⟩

theorem C_none_ {α : Type} {d : Kd α} {w : World} {n : Nat} {xs : List α} (h : d.C w none n xs) : xs = [] := by
  have h1 := h.1
  rcases Nat.eq_zero_or_pos n with h0 | h0
  · exact List.eq_nil_of_length_eq_zero (by omega)
  · obtain ⟨ad, e, _⟩ := h.2.2 h0
    cases e

end Go.Proofs.Ytcilcmbailoeaaa.KS
