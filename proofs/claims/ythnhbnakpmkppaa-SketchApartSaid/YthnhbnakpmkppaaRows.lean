/-
  No cell of these rows narrows 'for every input' (looked for: loops, veiled, ifaces, maps, wideKeys, modest, calm, conditions, laid).
  DERIVED. THE GIVEN ROWS OF THIS SEAT. 9 by the template 'for every input the law returns true; each argument reads behind the call as it read before'; 0 by the template 'total and deterministic' (their statements: YthnhbnakpmkppaaTotals.lean).
  GIVEN WITH THE SEED: the statements are not yours to turn. If you find one false, say at which input.
  Laid BY PROGRAM, IN A SANDBOX (cutbox-rows.mjs): the forced cells as the released guide's own fill.sh prints them over the translation ae4bde5fda8fa2a5… (all of the seat's roots in one cut). By AI agents, Wed Nov 11 2026. No macro, syntax, notation, axiom, sorry.
-/
import Derived.Test.YthnhbnakpmkppaaChecked
import GoSem.Claim
import GoSem.ClaimJoined
import GoSem.ClaimMapViews
import Derived.JoinedTies
import Derived.KernelRfl
namespace Go.Proofs.Ythnhbnakpmkppaa
/- THE CELL 'sum', in the pinned program and in every row, IS THE sha256 OF THE DUMP (.gsa) THAT YthnhbnakpmkppaaProg.lean LOADS. Nothing in Lean hashes anything: it is a label: what it is worth is what the hold of that sum in a sandbox is worth. -/
noncomputable def Try.pinned : Pinned := { name := "ythnhbnakpmkppaa", sum := "ae4bde5fda8fa2a55c4bb94c1294fb40d347732d44f6432879fbde586e7a12bd", checked := Try.checked }
namespace Rows
def none {H : Type} : Left H := { results := [], args := [] }

/-- 'kedgelaw11.SketchPlays': WHATEVER THE INPUT: true; the input reads as it did. -/
def sketchPlaysSpec : ChangeSpec := { name := "sketchPlays", fn := fun _ => fun
  | [d1, d2, d3, d4, d5] => { results := [.lit (.bool true)], args := [d1, d2, d3, d4, d5] }
  | _ => none }
def sketchPlaysRow : OpenClaim := { program := "ythnhbnakpmkppaa", sum := "ae4bde5fda8fa2a55c4bb94c1294fb40d347732d44f6432879fbde586e7a12bd", func := "kedge/kedgelaw11.SketchPlays", spec := "sketchPlays", unfollowed := true, recurses := true, apart := false }
def SketchPlaysSaid : Prop := sketchPlaysRow.holds Try.pinned (OpenSpec.ofChange sketchPlaysSpec)

/-- ITS FALSE NEIGHBOUR: 'it returns false'. Refute it at one input. -/
def sketchPlaysWrong : ChangeSpec := { name := "sketchPlays", fn := fun _ => fun
  | [d1, d2, d3, d4, d5] => { results := [.lit (.bool false)], args := [d1, d2, d3, d4, d5] }
  | _ => none }
def SketchPlaysWrongFalsely : Prop := sketchPlaysRow.holds Try.pinned (OpenSpec.ofChange sketchPlaysWrong)

/-- 'kedgelaw11.SketchNone': WHATEVER THE INPUT: true; the input reads as it did. -/
def sketchNoneSpec : ChangeSpec := { name := "sketchNone", fn := fun _ => fun
  | [d] => { results := [.lit (.bool true)], args := [d] }
  | _ => none }
def sketchNoneRow : OpenClaim := { program := "ythnhbnakpmkppaa", sum := "ae4bde5fda8fa2a55c4bb94c1294fb40d347732d44f6432879fbde586e7a12bd", func := "kedge/kedgelaw11.SketchNone", spec := "sketchNone", unfollowed := true, recurses := true, apart := false }
def SketchNoneSaid : Prop := sketchNoneRow.holds Try.pinned (OpenSpec.ofChange sketchNoneSpec)

/-- ITS FALSE NEIGHBOUR: 'it returns false'. Refute it at one input. -/
def sketchNoneWrong : ChangeSpec := { name := "sketchNone", fn := fun _ => fun
  | [d] => { results := [.lit (.bool false)], args := [d] }
  | _ => none }
def SketchNoneWrongFalsely : Prop := sketchNoneRow.holds Try.pinned (OpenSpec.ofChange sketchNoneWrong)

/-- 'kedgelaw11.SketchLeast': WHATEVER THE INPUT: true; the input reads as it did. -/
def sketchLeastSpec : ChangeSpec := { name := "sketchLeast", fn := fun _ => fun
  | [d1, d2, d3, d4] => { results := [.lit (.bool true)], args := [d1, d2, d3, d4] }
  | _ => none }
def sketchLeastRow : OpenClaim := { program := "ythnhbnakpmkppaa", sum := "ae4bde5fda8fa2a55c4bb94c1294fb40d347732d44f6432879fbde586e7a12bd", func := "kedge/kedgelaw11.SketchLeast", spec := "sketchLeast", unfollowed := true, recurses := true, apart := false }
def SketchLeastSaid : Prop := sketchLeastRow.holds Try.pinned (OpenSpec.ofChange sketchLeastSpec)

/-- ITS FALSE NEIGHBOUR: 'it returns false'. Refute it at one input. -/
def sketchLeastWrong : ChangeSpec := { name := "sketchLeast", fn := fun _ => fun
  | [d1, d2, d3, d4] => { results := [.lit (.bool false)], args := [d1, d2, d3, d4] }
  | _ => none }
def SketchLeastWrongFalsely : Prop := sketchLeastRow.holds Try.pinned (OpenSpec.ofChange sketchLeastWrong)

/-- 'kedgelaw11.SketchFull': WHATEVER THE INPUT: true; the input reads as it did. -/
def sketchFullSpec : ChangeSpec := { name := "sketchFull", fn := fun _ => fun
  | [d1, d2, d3] => { results := [.lit (.bool true)], args := [d1, d2, d3] }
  | _ => none }
def sketchFullRow : OpenClaim := { program := "ythnhbnakpmkppaa", sum := "ae4bde5fda8fa2a55c4bb94c1294fb40d347732d44f6432879fbde586e7a12bd", func := "kedge/kedgelaw11.SketchFull", spec := "sketchFull", unfollowed := true, recurses := true, apart := false }
def SketchFullSaid : Prop := sketchFullRow.holds Try.pinned (OpenSpec.ofChange sketchFullSpec)

/-- ITS FALSE NEIGHBOUR: 'it returns false'. Refute it at one input. -/
def sketchFullWrong : ChangeSpec := { name := "sketchFull", fn := fun _ => fun
  | [d1, d2, d3] => { results := [.lit (.bool false)], args := [d1, d2, d3] }
  | _ => none }
def SketchFullWrongFalsely : Prop := sketchFullRow.holds Try.pinned (OpenSpec.ofChange sketchFullWrong)

/-- 'kedgelaw11.SketchApart': WHATEVER THE INPUT: true; the input reads as it did. -/
def sketchApartSpec : ChangeSpec := { name := "sketchApart", fn := fun _ => fun
  | [d1, d2, d3, d4] => { results := [.lit (.bool true)], args := [d1, d2, d3, d4] }
  | _ => none }
def sketchApartRow : OpenClaim := { program := "ythnhbnakpmkppaa", sum := "ae4bde5fda8fa2a55c4bb94c1294fb40d347732d44f6432879fbde586e7a12bd", func := "kedge/kedgelaw11.SketchApart", spec := "sketchApart", unfollowed := true, recurses := true, apart := false }
def SketchApartSaid : Prop := sketchApartRow.holds Try.pinned (OpenSpec.ofChange sketchApartSpec)

/-- ITS FALSE NEIGHBOUR: 'it returns false'. Refute it at one input. -/
def sketchApartWrong : ChangeSpec := { name := "sketchApart", fn := fun _ => fun
  | [d1, d2, d3, d4] => { results := [.lit (.bool false)], args := [d1, d2, d3, d4] }
  | _ => none }
def SketchApartWrongFalsely : Prop := sketchApartRow.holds Try.pinned (OpenSpec.ofChange sketchApartWrong)

/-- 'kedgelaw18.PrefetchIs': WHATEVER THE INPUT: true; the input reads as it did. -/
def prefetchIsSpec : ChangeSpec := { name := "prefetchIs", fn := fun _ => fun
  | [d1, d2, d3] => { results := [.lit (.bool true)], args := [d1, d2, d3] }
  | _ => none }
def prefetchIsRow : OpenClaim := { program := "ythnhbnakpmkppaa", sum := "ae4bde5fda8fa2a55c4bb94c1294fb40d347732d44f6432879fbde586e7a12bd", func := "kedge/kedgelaw18.PrefetchIs", spec := "prefetchIs", unfollowed := true, recurses := true, apart := false }
def PrefetchIsSaid : Prop := prefetchIsRow.holds Try.pinned (OpenSpec.ofChange prefetchIsSpec)

/-- ITS FALSE NEIGHBOUR: 'it returns false'. Refute it at one input. -/
def prefetchIsWrong : ChangeSpec := { name := "prefetchIs", fn := fun _ => fun
  | [d1, d2, d3] => { results := [.lit (.bool false)], args := [d1, d2, d3] }
  | _ => none }
def PrefetchIsWrongFalsely : Prop := prefetchIsRow.holds Try.pinned (OpenSpec.ofChange prefetchIsWrong)

/-- 'kedgelaw18.PrefetchBeside': WHATEVER THE INPUT: true; the input reads as it did. -/
def prefetchBesideSpec : ChangeSpec := { name := "prefetchBeside", fn := fun _ => fun
  | [d1, d2, d3] => { results := [.lit (.bool true)], args := [d1, d2, d3] }
  | _ => none }
def prefetchBesideRow : OpenClaim := { program := "ythnhbnakpmkppaa", sum := "ae4bde5fda8fa2a55c4bb94c1294fb40d347732d44f6432879fbde586e7a12bd", func := "kedge/kedgelaw18.PrefetchBeside", spec := "prefetchBeside", unfollowed := true, recurses := true, apart := false }
def PrefetchBesideSaid : Prop := prefetchBesideRow.holds Try.pinned (OpenSpec.ofChange prefetchBesideSpec)

/-- ITS FALSE NEIGHBOUR: 'it returns false'. Refute it at one input. -/
def prefetchBesideWrong : ChangeSpec := { name := "prefetchBeside", fn := fun _ => fun
  | [d1, d2, d3] => { results := [.lit (.bool false)], args := [d1, d2, d3] }
  | _ => none }
def PrefetchBesideWrongFalsely : Prop := prefetchBesideRow.holds Try.pinned (OpenSpec.ofChange prefetchBesideWrong)

/-- 'kedgelaw13.TableVictim': WHATEVER THE INPUT: true; the input reads as it did. -/
def tableVictimSpec : ChangeSpec := { name := "tableVictim", fn := fun _ => fun
  | [d1, d2, d3] => { results := [.lit (.bool true)], args := [d1, d2, d3] }
  | _ => none }
def tableVictimRow : OpenClaim := { program := "ythnhbnakpmkppaa", sum := "ae4bde5fda8fa2a55c4bb94c1294fb40d347732d44f6432879fbde586e7a12bd", func := "kedge/kedgelaw13.TableVictim", spec := "tableVictim", unfollowed := true, recurses := true, apart := false }
def TableVictimSaid : Prop := tableVictimRow.holds Try.pinned (OpenSpec.ofChange tableVictimSpec)

/-- ITS FALSE NEIGHBOUR: 'it returns false'. Refute it at one input. -/
def tableVictimWrong : ChangeSpec := { name := "tableVictim", fn := fun _ => fun
  | [d1, d2, d3] => { results := [.lit (.bool false)], args := [d1, d2, d3] }
  | _ => none }
def TableVictimWrongFalsely : Prop := tableVictimRow.holds Try.pinned (OpenSpec.ofChange tableVictimWrong)

/-- 'kedgelaw13.TableNone': WHATEVER THE INPUT: true; the input reads as it did. -/
def tableNoneSpec : ChangeSpec := { name := "tableNone", fn := fun _ => fun
  | [d1, d2] => { results := [.lit (.bool true)], args := [d1, d2] }
  | _ => none }
def tableNoneRow : OpenClaim := { program := "ythnhbnakpmkppaa", sum := "ae4bde5fda8fa2a55c4bb94c1294fb40d347732d44f6432879fbde586e7a12bd", func := "kedge/kedgelaw13.TableNone", spec := "tableNone", unfollowed := true, recurses := true, apart := false }
def TableNoneSaid : Prop := tableNoneRow.holds Try.pinned (OpenSpec.ofChange tableNoneSpec)

/-- ITS FALSE NEIGHBOUR: 'it returns false'. Refute it at one input. -/
def tableNoneWrong : ChangeSpec := { name := "tableNone", fn := fun _ => fun
  | [d1, d2] => { results := [.lit (.bool false)], args := [d1, d2] }
  | _ => none }
def TableNoneWrongFalsely : Prop := tableNoneRow.holds Try.pinned (OpenSpec.ofChange tableNoneWrong)

/- THE SECOND FORM. 'bulk': how many values and letters a reading holds, each counted each time it is reached (what is shared counts as often as it is met; a slice's spare places count too). A statement '..UptoSaid' is the law's where the arguments, and the package variables that the reading takes, are together of bulk at most 1048576: NARROWER than '..Said'. Prove '..Said' where nothing that the law and all that it calls make is longer than what came in: it says more and counts as full. Else prove '..UptoSaid'. A law counts once. -/
mutual
def uptoBulk {H : Type} : DataW H → Nat
  | .lit (.string bytes) => bytes.length + 1
  | .lit _ => 1
  | .nil => 1
  | .ptr d => uptoBulk d + 1
  | .slice elems spare => uptoBulkAll elems + uptoBulkAll spare + 1
  | .agg parts => uptoBulkAll parts + 1
  | .iface _ d => uptoBulk d + 1
  | .map entries => uptoBulkEntries entries + 1
  | .held _ => 1
def uptoBulkAll {H : Type} : List (DataW H) → Nat
  | [] => 0
  | d :: r => uptoBulk d + uptoBulkAll r
def uptoBulkEntries {H : Type} : List (Lit × DataW H) → Nat
  | [] => 0
  | x :: r => uptoBulkEntry x + uptoBulkEntries r
def uptoBulkEntry {H : Type} : Lit × DataW H → Nat
  | (.string bytes, d) => bytes.length + uptoBulk d + 1
  | (_, d) => uptoBulk d + 1
 end
def uptoSmall : (H : Type) → List (DataW H) → Bool := fun _ ds => decide (uptoBulkAll ds ≤ 1048576)
def OpenSpec.upto (s : _root_.Go.ChangeSpec) : _root_.Go.OpenSpec := { _root_.Go.OpenSpec.ofChange s with cond := some uptoSmall }

/-- 'kedgelaw11.SketchPlays', WHERE WHAT IT READS IS OF BULK AT MOST 1048576: true; the input reads as it did. -/
def sketchPlaysUptoRow : OpenClaim := { program := "ythnhbnakpmkppaa", sum := "ae4bde5fda8fa2a55c4bb94c1294fb40d347732d44f6432879fbde586e7a12bd", func := "kedge/kedgelaw11.SketchPlays", spec := "sketchPlays", unfollowed := true, recurses := true, apart := false, narrowed := true }
def SketchPlaysUptoSaid : Prop := sketchPlaysUptoRow.holds Try.pinned (OpenSpec.upto sketchPlaysSpec)

/-- 'kedgelaw11.SketchNone', WHERE WHAT IT READS IS OF BULK AT MOST 1048576: true; the input reads as it did. -/
def sketchNoneUptoRow : OpenClaim := { program := "ythnhbnakpmkppaa", sum := "ae4bde5fda8fa2a55c4bb94c1294fb40d347732d44f6432879fbde586e7a12bd", func := "kedge/kedgelaw11.SketchNone", spec := "sketchNone", unfollowed := true, recurses := true, apart := false, narrowed := true }
def SketchNoneUptoSaid : Prop := sketchNoneUptoRow.holds Try.pinned (OpenSpec.upto sketchNoneSpec)

/-- 'kedgelaw11.SketchLeast', WHERE WHAT IT READS IS OF BULK AT MOST 1048576: true; the input reads as it did. -/
def sketchLeastUptoRow : OpenClaim := { program := "ythnhbnakpmkppaa", sum := "ae4bde5fda8fa2a55c4bb94c1294fb40d347732d44f6432879fbde586e7a12bd", func := "kedge/kedgelaw11.SketchLeast", spec := "sketchLeast", unfollowed := true, recurses := true, apart := false, narrowed := true }
def SketchLeastUptoSaid : Prop := sketchLeastUptoRow.holds Try.pinned (OpenSpec.upto sketchLeastSpec)

/-- 'kedgelaw11.SketchFull', WHERE WHAT IT READS IS OF BULK AT MOST 1048576: true; the input reads as it did. -/
def sketchFullUptoRow : OpenClaim := { program := "ythnhbnakpmkppaa", sum := "ae4bde5fda8fa2a55c4bb94c1294fb40d347732d44f6432879fbde586e7a12bd", func := "kedge/kedgelaw11.SketchFull", spec := "sketchFull", unfollowed := true, recurses := true, apart := false, narrowed := true }
def SketchFullUptoSaid : Prop := sketchFullUptoRow.holds Try.pinned (OpenSpec.upto sketchFullSpec)

/-- 'kedgelaw11.SketchApart', WHERE WHAT IT READS IS OF BULK AT MOST 1048576: true; the input reads as it did. -/
def sketchApartUptoRow : OpenClaim := { program := "ythnhbnakpmkppaa", sum := "ae4bde5fda8fa2a55c4bb94c1294fb40d347732d44f6432879fbde586e7a12bd", func := "kedge/kedgelaw11.SketchApart", spec := "sketchApart", unfollowed := true, recurses := true, apart := false, narrowed := true }
def SketchApartUptoSaid : Prop := sketchApartUptoRow.holds Try.pinned (OpenSpec.upto sketchApartSpec)

/-- 'kedgelaw18.PrefetchIs', WHERE WHAT IT READS IS OF BULK AT MOST 1048576: true; the input reads as it did. -/
def prefetchIsUptoRow : OpenClaim := { program := "ythnhbnakpmkppaa", sum := "ae4bde5fda8fa2a55c4bb94c1294fb40d347732d44f6432879fbde586e7a12bd", func := "kedge/kedgelaw18.PrefetchIs", spec := "prefetchIs", unfollowed := true, recurses := true, apart := false, narrowed := true }
def PrefetchIsUptoSaid : Prop := prefetchIsUptoRow.holds Try.pinned (OpenSpec.upto prefetchIsSpec)

/-- 'kedgelaw18.PrefetchBeside', WHERE WHAT IT READS IS OF BULK AT MOST 1048576: true; the input reads as it did. -/
def prefetchBesideUptoRow : OpenClaim := { program := "ythnhbnakpmkppaa", sum := "ae4bde5fda8fa2a55c4bb94c1294fb40d347732d44f6432879fbde586e7a12bd", func := "kedge/kedgelaw18.PrefetchBeside", spec := "prefetchBeside", unfollowed := true, recurses := true, apart := false, narrowed := true }
def PrefetchBesideUptoSaid : Prop := prefetchBesideUptoRow.holds Try.pinned (OpenSpec.upto prefetchBesideSpec)

/-- 'kedgelaw13.TableVictim', WHERE WHAT IT READS IS OF BULK AT MOST 1048576: true; the input reads as it did. -/
def tableVictimUptoRow : OpenClaim := { program := "ythnhbnakpmkppaa", sum := "ae4bde5fda8fa2a55c4bb94c1294fb40d347732d44f6432879fbde586e7a12bd", func := "kedge/kedgelaw13.TableVictim", spec := "tableVictim", unfollowed := true, recurses := true, apart := false, narrowed := true }
def TableVictimUptoSaid : Prop := tableVictimUptoRow.holds Try.pinned (OpenSpec.upto tableVictimSpec)

/-- 'kedgelaw13.TableNone', WHERE WHAT IT READS IS OF BULK AT MOST 1048576: true; the input reads as it did. -/
def tableNoneUptoRow : OpenClaim := { program := "ythnhbnakpmkppaa", sum := "ae4bde5fda8fa2a55c4bb94c1294fb40d347732d44f6432879fbde586e7a12bd", func := "kedge/kedgelaw13.TableNone", spec := "tableNone", unfollowed := true, recurses := true, apart := false, narrowed := true }
def TableNoneUptoSaid : Prop := tableNoneUptoRow.holds Try.pinned (OpenSpec.upto tableNoneSpec)

end Rows
end Go.Proofs.Ythnhbnakpmkppaa
