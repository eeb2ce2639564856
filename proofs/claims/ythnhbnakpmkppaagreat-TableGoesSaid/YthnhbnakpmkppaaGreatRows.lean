/-
  No cell of these rows narrows 'for every input' (looked for: loops, veiled, ifaces, maps, wideKeys, modest, calm, conditions, laid).
  DERIVED. THE GIVEN ROWS OF THIS SEAT. 17 by the template 'for every input the law returns true; each argument reads behind the call as it read before'; 0 by the template 'total and deterministic' (their statements: YthnhbnakpmkppaaGreatTotals.lean).
  GIVEN WITH THE SEED: the statements are not yours to turn. If you find one false, say at which input.
  Laid BY PROGRAM, IN A SANDBOX (cutbox-rows.mjs): the forced cells as the released guide's own fill.sh prints them over the translation 33a8a5d42580a2b2… (all of the seat's roots in one cut). By AI agents, Wed Nov 11 2026. No macro, syntax, notation, axiom, sorry.
-/
import Derived.Test.YthnhbnakpmkppaaGreatChecked
import GoSem.Claim
import GoSem.ClaimJoined
import GoSem.ClaimMapViews
import Derived.JoinedTies
import Derived.KernelRfl
namespace Go.Proofs.YthnhbnakpmkppaaGreat
/- THE CELL 'sum', in the pinned program and in every row, IS THE sha256 OF THE DUMP (.gsa) THAT YthnhbnakpmkppaaGreatProg.lean LOADS. Nothing in Lean hashes anything: it is a label: what it is worth is what the hold of that sum in a sandbox is worth. -/
noncomputable def Tryz.pinned : Pinned := { name := "ythnhbnakpmkppaagreat", sum := "33a8a5d42580a2b2b9c68b87f58b6fdc595468b40002e47ba3be7871be9306c5", checked := Tryz.checked }
namespace Rows
def none {H : Type} : Left H := { results := [], args := [] }

/-- 'kedgelaw13.TablePlays': WHATEVER THE INPUT: true; the input reads as it did. -/
def tablePlaysSpec : ChangeSpec := { name := "tablePlays", fn := fun _ => fun
  | [d1, d2, d3, d4] => { results := [.lit (.bool true)], args := [d1, d2, d3, d4] }
  | _ => none }
def tablePlaysRow : OpenClaim := { program := "ythnhbnakpmkppaagreat", sum := "33a8a5d42580a2b2b9c68b87f58b6fdc595468b40002e47ba3be7871be9306c5", func := "kedge/kedgelaw13.TablePlays", spec := "tablePlays", unfollowed := true, recurses := true, apart := false }
def TablePlaysSaid : Prop := tablePlaysRow.holds Tryz.pinned (OpenSpec.ofChange tablePlaysSpec)

/-- ITS FALSE NEIGHBOUR: 'it returns false'. Refute it at one input. -/
def tablePlaysWrong : ChangeSpec := { name := "tablePlays", fn := fun _ => fun
  | [d1, d2, d3, d4] => { results := [.lit (.bool false)], args := [d1, d2, d3, d4] }
  | _ => none }
def TablePlaysWrongFalsely : Prop := tablePlaysRow.holds Tryz.pinned (OpenSpec.ofChange tablePlaysWrong)

/-- 'kedgelaw13.TableFinds': WHATEVER THE INPUT: true; the input reads as it did. -/
def tableFindsSpec : ChangeSpec := { name := "tableFinds", fn := fun _ => fun
  | [d1, d2, d3, d4] => { results := [.lit (.bool true)], args := [d1, d2, d3, d4] }
  | _ => none }
def tableFindsRow : OpenClaim := { program := "ythnhbnakpmkppaagreat", sum := "33a8a5d42580a2b2b9c68b87f58b6fdc595468b40002e47ba3be7871be9306c5", func := "kedge/kedgelaw13.TableFinds", spec := "tableFinds", unfollowed := true, recurses := true, apart := false }
def TableFindsSaid : Prop := tableFindsRow.holds Tryz.pinned (OpenSpec.ofChange tableFindsSpec)

/-- ITS FALSE NEIGHBOUR: 'it returns false'. Refute it at one input. -/
def tableFindsWrong : ChangeSpec := { name := "tableFinds", fn := fun _ => fun
  | [d1, d2, d3, d4] => { results := [.lit (.bool false)], args := [d1, d2, d3, d4] }
  | _ => none }
def TableFindsWrongFalsely : Prop := tableFindsRow.holds Tryz.pinned (OpenSpec.ofChange tableFindsWrong)

/-- 'kedgelaw13.TableGoes': WHATEVER THE INPUT: true; the input reads as it did. -/
def tableGoesSpec : ChangeSpec := { name := "tableGoes", fn := fun _ => fun
  | [d1, d2, d3] => { results := [.lit (.bool true)], args := [d1, d2, d3] }
  | _ => none }
def tableGoesRow : OpenClaim := { program := "ythnhbnakpmkppaagreat", sum := "33a8a5d42580a2b2b9c68b87f58b6fdc595468b40002e47ba3be7871be9306c5", func := "kedge/kedgelaw13.TableGoes", spec := "tableGoes", unfollowed := true, recurses := true, apart := false }
def TableGoesSaid : Prop := tableGoesRow.holds Tryz.pinned (OpenSpec.ofChange tableGoesSpec)

/-- ITS FALSE NEIGHBOUR: 'it returns false'. Refute it at one input. -/
def tableGoesWrong : ChangeSpec := { name := "tableGoes", fn := fun _ => fun
  | [d1, d2, d3] => { results := [.lit (.bool false)], args := [d1, d2, d3] }
  | _ => none }
def TableGoesWrongFalsely : Prop := tableGoesRow.holds Tryz.pinned (OpenSpec.ofChange tableGoesWrong)

/-- 'kedgelaw13.TableFlush': WHATEVER THE INPUT: true; the input reads as it did. -/
def tableFlushSpec : ChangeSpec := { name := "tableFlush", fn := fun _ => fun
  | [d1, d2, d3, d4] => { results := [.lit (.bool true)], args := [d1, d2, d3, d4] }
  | _ => none }
def tableFlushRow : OpenClaim := { program := "ythnhbnakpmkppaagreat", sum := "33a8a5d42580a2b2b9c68b87f58b6fdc595468b40002e47ba3be7871be9306c5", func := "kedge/kedgelaw13.TableFlush", spec := "tableFlush", unfollowed := true, recurses := true, apart := false }
def TableFlushSaid : Prop := tableFlushRow.holds Tryz.pinned (OpenSpec.ofChange tableFlushSpec)

/-- ITS FALSE NEIGHBOUR: 'it returns false'. Refute it at one input. -/
def tableFlushWrong : ChangeSpec := { name := "tableFlush", fn := fun _ => fun
  | [d1, d2, d3, d4] => { results := [.lit (.bool false)], args := [d1, d2, d3, d4] }
  | _ => none }
def TableFlushWrongFalsely : Prop := tableFlushRow.holds Tryz.pinned (OpenSpec.ofChange tableFlushWrong)

/-- 'kedgelaw13.TableApart': WHATEVER THE INPUT: true; the input reads as it did. -/
def tableApartSpec : ChangeSpec := { name := "tableApart", fn := fun _ => fun
  | [d1, d2, d3] => { results := [.lit (.bool true)], args := [d1, d2, d3] }
  | _ => none }
def tableApartRow : OpenClaim := { program := "ythnhbnakpmkppaagreat", sum := "33a8a5d42580a2b2b9c68b87f58b6fdc595468b40002e47ba3be7871be9306c5", func := "kedge/kedgelaw13.TableApart", spec := "tableApart", unfollowed := true, recurses := true, apart := false }
def TableApartSaid : Prop := tableApartRow.holds Tryz.pinned (OpenSpec.ofChange tableApartSpec)

/-- ITS FALSE NEIGHBOUR: 'it returns false'. Refute it at one input. -/
def tableApartWrong : ChangeSpec := { name := "tableApart", fn := fun _ => fun
  | [d1, d2, d3] => { results := [.lit (.bool false)], args := [d1, d2, d3] }
  | _ => none }
def TableApartWrongFalsely : Prop := tableApartRow.holds Tryz.pinned (OpenSpec.ofChange tableApartWrong)

/-- 'kedgelaw17.HierAnswers': WHATEVER THE INPUT: true; the input reads as it did. -/
def hierAnswersSpec : ChangeSpec := { name := "hierAnswers", fn := fun _ => fun
  | [d1, d2, d3] => { results := [.lit (.bool true)], args := [d1, d2, d3] }
  | _ => none }
def hierAnswersRow : OpenClaim := { program := "ythnhbnakpmkppaagreat", sum := "33a8a5d42580a2b2b9c68b87f58b6fdc595468b40002e47ba3be7871be9306c5", func := "kedge/kedgelaw17.HierAnswers", spec := "hierAnswers", inPlace := ["math/bits.Add64"], unfollowed := true, recurses := true, apart := false }
def HierAnswersSaid : Prop := hierAnswersRow.holds Tryz.pinned (OpenSpec.ofChange hierAnswersSpec)

/-- ITS FALSE NEIGHBOUR: 'it returns false'. Refute it at one input. -/
def hierAnswersWrong : ChangeSpec := { name := "hierAnswers", fn := fun _ => fun
  | [d1, d2, d3] => { results := [.lit (.bool false)], args := [d1, d2, d3] }
  | _ => none }
def HierAnswersWrongFalsely : Prop := hierAnswersRow.holds Tryz.pinned (OpenSpec.ofChange hierAnswersWrong)

/-- 'kedgelaw17.HierFills': WHATEVER THE INPUT: true; the input reads as it did. -/
def hierFillsSpec : ChangeSpec := { name := "hierFills", fn := fun _ => fun
  | [d1, d2, d3] => { results := [.lit (.bool true)], args := [d1, d2, d3] }
  | _ => none }
def hierFillsRow : OpenClaim := { program := "ythnhbnakpmkppaagreat", sum := "33a8a5d42580a2b2b9c68b87f58b6fdc595468b40002e47ba3be7871be9306c5", func := "kedge/kedgelaw17.HierFills", spec := "hierFills", inPlace := ["math/bits.Add64"], unfollowed := true, recurses := true, apart := false }
def HierFillsSaid : Prop := hierFillsRow.holds Tryz.pinned (OpenSpec.ofChange hierFillsSpec)

/-- ITS FALSE NEIGHBOUR: 'it returns false'. Refute it at one input. -/
def hierFillsWrong : ChangeSpec := { name := "hierFills", fn := fun _ => fun
  | [d1, d2, d3] => { results := [.lit (.bool false)], args := [d1, d2, d3] }
  | _ => none }
def HierFillsWrongFalsely : Prop := hierFillsRow.holds Tryz.pinned (OpenSpec.ofChange hierFillsWrong)

/-- 'kedgelaw17.HierAgain': WHATEVER THE INPUT: true; the input reads as it did. -/
def hierAgainSpec : ChangeSpec := { name := "hierAgain", fn := fun _ => fun
  | [d1, d2, d3] => { results := [.lit (.bool true)], args := [d1, d2, d3] }
  | _ => none }
def hierAgainRow : OpenClaim := { program := "ythnhbnakpmkppaagreat", sum := "33a8a5d42580a2b2b9c68b87f58b6fdc595468b40002e47ba3be7871be9306c5", func := "kedge/kedgelaw17.HierAgain", spec := "hierAgain", inPlace := ["math/bits.Add64"], unfollowed := true, recurses := true, apart := false }
def HierAgainSaid : Prop := hierAgainRow.holds Tryz.pinned (OpenSpec.ofChange hierAgainSpec)

/-- ITS FALSE NEIGHBOUR: 'it returns false'. Refute it at one input. -/
def hierAgainWrong : ChangeSpec := { name := "hierAgain", fn := fun _ => fun
  | [d1, d2, d3] => { results := [.lit (.bool false)], args := [d1, d2, d3] }
  | _ => none }
def HierAgainWrongFalsely : Prop := hierAgainRow.holds Tryz.pinned (OpenSpec.ofChange hierAgainWrong)

/-- 'kedgelaw17.HierNone': WHATEVER THE INPUT: true; the input reads as it did. -/
def hierNoneSpec : ChangeSpec := { name := "hierNone", fn := fun _ => fun
  | [d] => { results := [.lit (.bool true)], args := [d] }
  | _ => none }
def hierNoneRow : OpenClaim := { program := "ythnhbnakpmkppaagreat", sum := "33a8a5d42580a2b2b9c68b87f58b6fdc595468b40002e47ba3be7871be9306c5", func := "kedge/kedgelaw17.HierNone", spec := "hierNone", inPlace := ["math/bits.Add64"], unfollowed := true, recurses := true, apart := false }
def HierNoneSaid : Prop := hierNoneRow.holds Tryz.pinned (OpenSpec.ofChange hierNoneSpec)

/-- ITS FALSE NEIGHBOUR: 'it returns false'. Refute it at one input. -/
def hierNoneWrong : ChangeSpec := { name := "hierNone", fn := fun _ => fun
  | [d] => { results := [.lit (.bool false)], args := [d] }
  | _ => none }
def HierNoneWrongFalsely : Prop := hierNoneRow.holds Tryz.pinned (OpenSpec.ofChange hierNoneWrong)

/-- 'kedgelaw17.HierCounts': WHATEVER THE INPUT: true; the input reads as it did. -/
def hierCountsSpec : ChangeSpec := { name := "hierCounts", fn := fun _ => fun
  | [d1, d2] => { results := [.lit (.bool true)], args := [d1, d2] }
  | _ => none }
def hierCountsRow : OpenClaim := { program := "ythnhbnakpmkppaagreat", sum := "33a8a5d42580a2b2b9c68b87f58b6fdc595468b40002e47ba3be7871be9306c5", func := "kedge/kedgelaw17.HierCounts", spec := "hierCounts", inPlace := ["math/bits.Add64"], unfollowed := true, recurses := true, apart := false }
def HierCountsSaid : Prop := hierCountsRow.holds Tryz.pinned (OpenSpec.ofChange hierCountsSpec)

/-- ITS FALSE NEIGHBOUR: 'it returns false'. Refute it at one input. -/
def hierCountsWrong : ChangeSpec := { name := "hierCounts", fn := fun _ => fun
  | [d1, d2] => { results := [.lit (.bool false)], args := [d1, d2] }
  | _ => none }
def HierCountsWrongFalsely : Prop := hierCountsRow.holds Tryz.pinned (OpenSpec.ofChange hierCountsWrong)

/-- 'kedgelaw17.HierPlays': WHATEVER THE INPUT: true; the input reads as it did. -/
def hierPlaysSpec : ChangeSpec := { name := "hierPlays", fn := fun _ => fun
  | [d1, d2] => { results := [.lit (.bool true)], args := [d1, d2] }
  | _ => none }
def hierPlaysRow : OpenClaim := { program := "ythnhbnakpmkppaagreat", sum := "33a8a5d42580a2b2b9c68b87f58b6fdc595468b40002e47ba3be7871be9306c5", func := "kedge/kedgelaw17.HierPlays", spec := "hierPlays", inPlace := ["math/bits.Add64"], unfollowed := true, recurses := true, apart := false }
def HierPlaysSaid : Prop := hierPlaysRow.holds Tryz.pinned (OpenSpec.ofChange hierPlaysSpec)

/-- ITS FALSE NEIGHBOUR: 'it returns false'. Refute it at one input. -/
def hierPlaysWrong : ChangeSpec := { name := "hierPlays", fn := fun _ => fun
  | [d1, d2] => { results := [.lit (.bool false)], args := [d1, d2] }
  | _ => none }
def HierPlaysWrongFalsely : Prop := hierPlaysRow.holds Tryz.pinned (OpenSpec.ofChange hierPlaysWrong)

/-- 'kedgelaw17.HierErrors': WHATEVER THE INPUT: true; the input reads as it did. -/
def hierErrorsSpec : ChangeSpec := { name := "hierErrors", fn := fun _ => fun
  | [d1, d2, d3, d4] => { results := [.lit (.bool true)], args := [d1, d2, d3, d4] }
  | _ => none }
def hierErrorsRow : OpenClaim := { program := "ythnhbnakpmkppaagreat", sum := "33a8a5d42580a2b2b9c68b87f58b6fdc595468b40002e47ba3be7871be9306c5", func := "kedge/kedgelaw17.HierErrors", spec := "hierErrors", inPlace := ["math/bits.Add64"], unfollowed := true, recurses := true, apart := false }
def HierErrorsSaid : Prop := hierErrorsRow.holds Tryz.pinned (OpenSpec.ofChange hierErrorsSpec)

/-- ITS FALSE NEIGHBOUR: 'it returns false'. Refute it at one input. -/
def hierErrorsWrong : ChangeSpec := { name := "hierErrors", fn := fun _ => fun
  | [d1, d2, d3, d4] => { results := [.lit (.bool false)], args := [d1, d2, d3, d4] }
  | _ => none }
def HierErrorsWrongFalsely : Prop := hierErrorsRow.holds Tryz.pinned (OpenSpec.ofChange hierErrorsWrong)

/-- 'kedgelaw17.HierGone': WHATEVER THE INPUT: true; the input reads as it did. -/
def hierGoneSpec : ChangeSpec := { name := "hierGone", fn := fun _ => fun
  | [d1, d2] => { results := [.lit (.bool true)], args := [d1, d2] }
  | _ => none }
def hierGoneRow : OpenClaim := { program := "ythnhbnakpmkppaagreat", sum := "33a8a5d42580a2b2b9c68b87f58b6fdc595468b40002e47ba3be7871be9306c5", func := "kedge/kedgelaw17.HierGone", spec := "hierGone", inPlace := ["math/bits.Add64"], unfollowed := true, recurses := true, apart := false }
def HierGoneSaid : Prop := hierGoneRow.holds Tryz.pinned (OpenSpec.ofChange hierGoneSpec)

/-- ITS FALSE NEIGHBOUR: 'it returns false'. Refute it at one input. -/
def hierGoneWrong : ChangeSpec := { name := "hierGone", fn := fun _ => fun
  | [d1, d2] => { results := [.lit (.bool false)], args := [d1, d2] }
  | _ => none }
def HierGoneWrongFalsely : Prop := hierGoneRow.holds Tryz.pinned (OpenSpec.ofChange hierGoneWrong)

/-- 'kedgelaw17.HierGood': WHATEVER THE INPUT: true; the input reads as it did. -/
def hierGoodSpec : ChangeSpec := { name := "hierGood", fn := fun _ => fun
  | [d1, d2] => { results := [.lit (.bool true)], args := [d1, d2] }
  | _ => none }
def hierGoodRow : OpenClaim := { program := "ythnhbnakpmkppaagreat", sum := "33a8a5d42580a2b2b9c68b87f58b6fdc595468b40002e47ba3be7871be9306c5", func := "kedge/kedgelaw17.HierGood", spec := "hierGood", inPlace := ["math/bits.Add64"], unfollowed := true, recurses := true, apart := false }
def HierGoodSaid : Prop := hierGoodRow.holds Tryz.pinned (OpenSpec.ofChange hierGoodSpec)

/-- ITS FALSE NEIGHBOUR: 'it returns false'. Refute it at one input. -/
def hierGoodWrong : ChangeSpec := { name := "hierGood", fn := fun _ => fun
  | [d1, d2] => { results := [.lit (.bool false)], args := [d1, d2] }
  | _ => none }
def HierGoodWrongFalsely : Prop := hierGoodRow.holds Tryz.pinned (OpenSpec.ofChange hierGoodWrong)

/-- 'kedgelaw18.PrefetchFree': WHATEVER THE INPUT: true; the input reads as it did. -/
def prefetchFreeSpec : ChangeSpec := { name := "prefetchFree", fn := fun _ => fun
  | [d1, d2, d3, d4] => { results := [.lit (.bool true)], args := [d1, d2, d3, d4] }
  | _ => none }
def prefetchFreeRow : OpenClaim := { program := "ythnhbnakpmkppaagreat", sum := "33a8a5d42580a2b2b9c68b87f58b6fdc595468b40002e47ba3be7871be9306c5", func := "kedge/kedgelaw18.PrefetchFree", spec := "prefetchFree", inPlace := ["math/bits.Add64"], unfollowed := true, recurses := true, apart := false }
def PrefetchFreeSaid : Prop := prefetchFreeRow.holds Tryz.pinned (OpenSpec.ofChange prefetchFreeSpec)

/-- ITS FALSE NEIGHBOUR: 'it returns false'. Refute it at one input. -/
def prefetchFreeWrong : ChangeSpec := { name := "prefetchFree", fn := fun _ => fun
  | [d1, d2, d3, d4] => { results := [.lit (.bool false)], args := [d1, d2, d3, d4] }
  | _ => none }
def PrefetchFreeWrongFalsely : Prop := prefetchFreeRow.holds Tryz.pinned (OpenSpec.ofChange prefetchFreeWrong)

/-- 'kedgelaw18.PrefetchPlays': WHATEVER THE INPUT: true; the input reads as it did. -/
def prefetchPlaysSpec : ChangeSpec := { name := "prefetchPlays", fn := fun _ => fun
  | [d1, d2] => { results := [.lit (.bool true)], args := [d1, d2] }
  | _ => none }
def prefetchPlaysRow : OpenClaim := { program := "ythnhbnakpmkppaagreat", sum := "33a8a5d42580a2b2b9c68b87f58b6fdc595468b40002e47ba3be7871be9306c5", func := "kedge/kedgelaw18.PrefetchPlays", spec := "prefetchPlays", inPlace := ["math/bits.Add64"], unfollowed := true, recurses := true, apart := false }
def PrefetchPlaysSaid : Prop := prefetchPlaysRow.holds Tryz.pinned (OpenSpec.ofChange prefetchPlaysSpec)

/-- ITS FALSE NEIGHBOUR: 'it returns false'. Refute it at one input. -/
def prefetchPlaysWrong : ChangeSpec := { name := "prefetchPlays", fn := fun _ => fun
  | [d1, d2] => { results := [.lit (.bool false)], args := [d1, d2] }
  | _ => none }
def PrefetchPlaysWrongFalsely : Prop := prefetchPlaysRow.holds Tryz.pinned (OpenSpec.ofChange prefetchPlaysWrong)

/-- 'kedgelaw18.PrefetchSame': WHATEVER THE INPUT: true; the input reads as it did. -/
def prefetchSameSpec : ChangeSpec := { name := "prefetchSame", fn := fun _ => fun
  | [d1, d2, d3, d4] => { results := [.lit (.bool true)], args := [d1, d2, d3, d4] }
  | _ => none }
def prefetchSameRow : OpenClaim := { program := "ythnhbnakpmkppaagreat", sum := "33a8a5d42580a2b2b9c68b87f58b6fdc595468b40002e47ba3be7871be9306c5", func := "kedge/kedgelaw18.PrefetchSame", spec := "prefetchSame", inPlace := ["math/bits.Add64"], unfollowed := true, recurses := true, apart := false }
def PrefetchSameSaid : Prop := prefetchSameRow.holds Tryz.pinned (OpenSpec.ofChange prefetchSameSpec)

/-- ITS FALSE NEIGHBOUR: 'it returns false'. Refute it at one input. -/
def prefetchSameWrong : ChangeSpec := { name := "prefetchSame", fn := fun _ => fun
  | [d1, d2, d3, d4] => { results := [.lit (.bool false)], args := [d1, d2, d3, d4] }
  | _ => none }
def PrefetchSameWrongFalsely : Prop := prefetchSameRow.holds Tryz.pinned (OpenSpec.ofChange prefetchSameWrong)

/- THE SECOND FORM. 'bulk': how many values and letters a reading holds, each counted each time it is reached (what is shared counts as often as it is met; a slice's spare places count too). A statement '..UptoSaid' is the law's where the arguments, and the package variables that the reading takes, are together of bulk at most 1048576: NARROWER than '..Said'. Prove '..Said' where nothing that the law and all that it calls make is longer than what came in: it says more and counts as full. Else prove '..UptoSaid'. A law counts once. -/
mutual
def uptoBulk {H : Type} : DataW H → Nat
  | .lit (.string bytes) => bytes.length + 1
  | .lit _ => 1
  | .nil => 1
  | .ptr d => uptoBulk d + 1
  | .slice elems spare => uptoBulkAll elems + uptoBulkAll spare + 1
  | .agg parts => uptoBulkAll parts + 1
  | .iface _ d => uptoBulk d + 1
  | .map entries => uptoBulkEntries entries + 1
  | .held _ => 1
def uptoBulkAll {H : Type} : List (DataW H) → Nat
  | [] => 0
  | d :: r => uptoBulk d + uptoBulkAll r
def uptoBulkEntries {H : Type} : List (Lit × DataW H) → Nat
  | [] => 0
  | x :: r => uptoBulkEntry x + uptoBulkEntries r
def uptoBulkEntry {H : Type} : Lit × DataW H → Nat
  | (.string bytes, d) => bytes.length + uptoBulk d + 1
  | (_, d) => uptoBulk d + 1
 end
def uptoSmall : (H : Type) → List (DataW H) → Bool := fun _ ds => decide (uptoBulkAll ds ≤ 1048576)
def OpenSpec.upto (s : _root_.Go.ChangeSpec) : _root_.Go.OpenSpec := { _root_.Go.OpenSpec.ofChange s with cond := some uptoSmall }

/-- 'kedgelaw13.TablePlays', WHERE WHAT IT READS IS OF BULK AT MOST 1048576: true; the input reads as it did. -/
def tablePlaysUptoRow : OpenClaim := { program := "ythnhbnakpmkppaagreat", sum := "33a8a5d42580a2b2b9c68b87f58b6fdc595468b40002e47ba3be7871be9306c5", func := "kedge/kedgelaw13.TablePlays", spec := "tablePlays", unfollowed := true, recurses := true, apart := false, narrowed := true }
def TablePlaysUptoSaid : Prop := tablePlaysUptoRow.holds Tryz.pinned (OpenSpec.upto tablePlaysSpec)

/-- 'kedgelaw13.TableFinds', WHERE WHAT IT READS IS OF BULK AT MOST 1048576: true; the input reads as it did. -/
def tableFindsUptoRow : OpenClaim := { program := "ythnhbnakpmkppaagreat", sum := "33a8a5d42580a2b2b9c68b87f58b6fdc595468b40002e47ba3be7871be9306c5", func := "kedge/kedgelaw13.TableFinds", spec := "tableFinds", unfollowed := true, recurses := true, apart := false, narrowed := true }
def TableFindsUptoSaid : Prop := tableFindsUptoRow.holds Tryz.pinned (OpenSpec.upto tableFindsSpec)

/-- 'kedgelaw13.TableGoes', WHERE WHAT IT READS IS OF BULK AT MOST 1048576: true; the input reads as it did. -/
def tableGoesUptoRow : OpenClaim := { program := "ythnhbnakpmkppaagreat", sum := "33a8a5d42580a2b2b9c68b87f58b6fdc595468b40002e47ba3be7871be9306c5", func := "kedge/kedgelaw13.TableGoes", spec := "tableGoes", unfollowed := true, recurses := true, apart := false, narrowed := true }
def TableGoesUptoSaid : Prop := tableGoesUptoRow.holds Tryz.pinned (OpenSpec.upto tableGoesSpec)

/-- 'kedgelaw13.TableFlush', WHERE WHAT IT READS IS OF BULK AT MOST 1048576: true; the input reads as it did. -/
def tableFlushUptoRow : OpenClaim := { program := "ythnhbnakpmkppaagreat", sum := "33a8a5d42580a2b2b9c68b87f58b6fdc595468b40002e47ba3be7871be9306c5", func := "kedge/kedgelaw13.TableFlush", spec := "tableFlush", unfollowed := true, recurses := true, apart := false, narrowed := true }
def TableFlushUptoSaid : Prop := tableFlushUptoRow.holds Tryz.pinned (OpenSpec.upto tableFlushSpec)

/-- 'kedgelaw13.TableApart', WHERE WHAT IT READS IS OF BULK AT MOST 1048576: true; the input reads as it did. -/
def tableApartUptoRow : OpenClaim := { program := "ythnhbnakpmkppaagreat", sum := "33a8a5d42580a2b2b9c68b87f58b6fdc595468b40002e47ba3be7871be9306c5", func := "kedge/kedgelaw13.TableApart", spec := "tableApart", unfollowed := true, recurses := true, apart := false, narrowed := true }
def TableApartUptoSaid : Prop := tableApartUptoRow.holds Tryz.pinned (OpenSpec.upto tableApartSpec)

/-- 'kedgelaw17.HierAnswers', WHERE WHAT IT READS IS OF BULK AT MOST 1048576: true; the input reads as it did. -/
def hierAnswersUptoRow : OpenClaim := { program := "ythnhbnakpmkppaagreat", sum := "33a8a5d42580a2b2b9c68b87f58b6fdc595468b40002e47ba3be7871be9306c5", func := "kedge/kedgelaw17.HierAnswers", spec := "hierAnswers", inPlace := ["math/bits.Add64"], unfollowed := true, recurses := true, apart := false, narrowed := true }
def HierAnswersUptoSaid : Prop := hierAnswersUptoRow.holds Tryz.pinned (OpenSpec.upto hierAnswersSpec)

/-- 'kedgelaw17.HierFills', WHERE WHAT IT READS IS OF BULK AT MOST 1048576: true; the input reads as it did. -/
def hierFillsUptoRow : OpenClaim := { program := "ythnhbnakpmkppaagreat", sum := "33a8a5d42580a2b2b9c68b87f58b6fdc595468b40002e47ba3be7871be9306c5", func := "kedge/kedgelaw17.HierFills", spec := "hierFills", inPlace := ["math/bits.Add64"], unfollowed := true, recurses := true, apart := false, narrowed := true }
def HierFillsUptoSaid : Prop := hierFillsUptoRow.holds Tryz.pinned (OpenSpec.upto hierFillsSpec)

/-- 'kedgelaw17.HierAgain', WHERE WHAT IT READS IS OF BULK AT MOST 1048576: true; the input reads as it did. -/
def hierAgainUptoRow : OpenClaim := { program := "ythnhbnakpmkppaagreat", sum := "33a8a5d42580a2b2b9c68b87f58b6fdc595468b40002e47ba3be7871be9306c5", func := "kedge/kedgelaw17.HierAgain", spec := "hierAgain", inPlace := ["math/bits.Add64"], unfollowed := true, recurses := true, apart := false, narrowed := true }
def HierAgainUptoSaid : Prop := hierAgainUptoRow.holds Tryz.pinned (OpenSpec.upto hierAgainSpec)

/-- 'kedgelaw17.HierNone', WHERE WHAT IT READS IS OF BULK AT MOST 1048576: true; the input reads as it did. -/
def hierNoneUptoRow : OpenClaim := { program := "ythnhbnakpmkppaagreat", sum := "33a8a5d42580a2b2b9c68b87f58b6fdc595468b40002e47ba3be7871be9306c5", func := "kedge/kedgelaw17.HierNone", spec := "hierNone", inPlace := ["math/bits.Add64"], unfollowed := true, recurses := true, apart := false, narrowed := true }
def HierNoneUptoSaid : Prop := hierNoneUptoRow.holds Tryz.pinned (OpenSpec.upto hierNoneSpec)

/-- 'kedgelaw17.HierCounts', WHERE WHAT IT READS IS OF BULK AT MOST 1048576: true; the input reads as it did. -/
def hierCountsUptoRow : OpenClaim := { program := "ythnhbnakpmkppaagreat", sum := "33a8a5d42580a2b2b9c68b87f58b6fdc595468b40002e47ba3be7871be9306c5", func := "kedge/kedgelaw17.HierCounts", spec := "hierCounts", inPlace := ["math/bits.Add64"], unfollowed := true, recurses := true, apart := false, narrowed := true }
def HierCountsUptoSaid : Prop := hierCountsUptoRow.holds Tryz.pinned (OpenSpec.upto hierCountsSpec)

/-- 'kedgelaw17.HierPlays', WHERE WHAT IT READS IS OF BULK AT MOST 1048576: true; the input reads as it did. -/
def hierPlaysUptoRow : OpenClaim := { program := "ythnhbnakpmkppaagreat", sum := "33a8a5d42580a2b2b9c68b87f58b6fdc595468b40002e47ba3be7871be9306c5", func := "kedge/kedgelaw17.HierPlays", spec := "hierPlays", inPlace := ["math/bits.Add64"], unfollowed := true, recurses := true, apart := false, narrowed := true }
def HierPlaysUptoSaid : Prop := hierPlaysUptoRow.holds Tryz.pinned (OpenSpec.upto hierPlaysSpec)

/-- 'kedgelaw17.HierErrors', WHERE WHAT IT READS IS OF BULK AT MOST 1048576: true; the input reads as it did. -/
def hierErrorsUptoRow : OpenClaim := { program := "ythnhbnakpmkppaagreat", sum := "33a8a5d42580a2b2b9c68b87f58b6fdc595468b40002e47ba3be7871be9306c5", func := "kedge/kedgelaw17.HierErrors", spec := "hierErrors", inPlace := ["math/bits.Add64"], unfollowed := true, recurses := true, apart := false, narrowed := true }
def HierErrorsUptoSaid : Prop := hierErrorsUptoRow.holds Tryz.pinned (OpenSpec.upto hierErrorsSpec)

/-- 'kedgelaw17.HierGone', WHERE WHAT IT READS IS OF BULK AT MOST 1048576: true; the input reads as it did. -/
def hierGoneUptoRow : OpenClaim := { program := "ythnhbnakpmkppaagreat", sum := "33a8a5d42580a2b2b9c68b87f58b6fdc595468b40002e47ba3be7871be9306c5", func := "kedge/kedgelaw17.HierGone", spec := "hierGone", inPlace := ["math/bits.Add64"], unfollowed := true, recurses := true, apart := false, narrowed := true }
def HierGoneUptoSaid : Prop := hierGoneUptoRow.holds Tryz.pinned (OpenSpec.upto hierGoneSpec)

/-- 'kedgelaw17.HierGood', WHERE WHAT IT READS IS OF BULK AT MOST 1048576: true; the input reads as it did. -/
def hierGoodUptoRow : OpenClaim := { program := "ythnhbnakpmkppaagreat", sum := "33a8a5d42580a2b2b9c68b87f58b6fdc595468b40002e47ba3be7871be9306c5", func := "kedge/kedgelaw17.HierGood", spec := "hierGood", inPlace := ["math/bits.Add64"], unfollowed := true, recurses := true, apart := false, narrowed := true }
def HierGoodUptoSaid : Prop := hierGoodUptoRow.holds Tryz.pinned (OpenSpec.upto hierGoodSpec)

/-- 'kedgelaw18.PrefetchFree', WHERE WHAT IT READS IS OF BULK AT MOST 1048576: true; the input reads as it did. -/
def prefetchFreeUptoRow : OpenClaim := { program := "ythnhbnakpmkppaagreat", sum := "33a8a5d42580a2b2b9c68b87f58b6fdc595468b40002e47ba3be7871be9306c5", func := "kedge/kedgelaw18.PrefetchFree", spec := "prefetchFree", inPlace := ["math/bits.Add64"], unfollowed := true, recurses := true, apart := false, narrowed := true }
def PrefetchFreeUptoSaid : Prop := prefetchFreeUptoRow.holds Tryz.pinned (OpenSpec.upto prefetchFreeSpec)

/-- 'kedgelaw18.PrefetchPlays', WHERE WHAT IT READS IS OF BULK AT MOST 1048576: true; the input reads as it did. -/
def prefetchPlaysUptoRow : OpenClaim := { program := "ythnhbnakpmkppaagreat", sum := "33a8a5d42580a2b2b9c68b87f58b6fdc595468b40002e47ba3be7871be9306c5", func := "kedge/kedgelaw18.PrefetchPlays", spec := "prefetchPlays", inPlace := ["math/bits.Add64"], unfollowed := true, recurses := true, apart := false, narrowed := true }
def PrefetchPlaysUptoSaid : Prop := prefetchPlaysUptoRow.holds Tryz.pinned (OpenSpec.upto prefetchPlaysSpec)

/-- 'kedgelaw18.PrefetchSame', WHERE WHAT IT READS IS OF BULK AT MOST 1048576: true; the input reads as it did. -/
def prefetchSameUptoRow : OpenClaim := { program := "ythnhbnakpmkppaagreat", sum := "33a8a5d42580a2b2b9c68b87f58b6fdc595468b40002e47ba3be7871be9306c5", func := "kedge/kedgelaw18.PrefetchSame", spec := "prefetchSame", inPlace := ["math/bits.Add64"], unfollowed := true, recurses := true, apart := false, narrowed := true }
def PrefetchSameUptoSaid : Prop := prefetchSameUptoRow.holds Tryz.pinned (OpenSpec.upto prefetchSameSpec)

end Rows
end Go.Proofs.YthnhbnakpmkppaaGreat
