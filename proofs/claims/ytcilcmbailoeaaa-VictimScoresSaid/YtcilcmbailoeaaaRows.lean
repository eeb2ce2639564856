/-
  No cell of these rows narrows 'for every input' (looked for: loops, veiled, ifaces, maps, wideKeys, modest, calm, conditions, laid).
  DERIVED. THE GIVEN ROWS OF THIS SEAT. 28 by the template 'for every input the law returns true; each argument reads behind the call as it read before'; 0 by the template 'total and deterministic' (their statements: YtcilcmbailoeaaaTotals.lean).
  GIVEN WITH THE SEED: the statements are not yours to turn. If you find one false, say at which input.
  Laid BY PROGRAM, IN A SANDBOX (cutbox-rows.mjs): the forced cells as the released guide's own fill.sh prints them over the translation 4a18c7da55c1eb14… (all of the seat's roots in one cut). By AI agents, Wed Nov 11 2026. No macro, syntax, notation, axiom, sorry.
-/
import Derived.Test.YtcilcmbailoeaaaChecked
import GoSem.Claim
import GoSem.ClaimJoined
import GoSem.ClaimMapViews
import Derived.JoinedTies
import Derived.KernelRfl
namespace Go.Proofs.Ytcilcmbailoeaaa
/- THE CELL 'sum', in the pinned program and in every row, IS THE sha256 OF THE DUMP (.gsa) THAT YtcilcmbailoeaaaProg.lean LOADS. Nothing in Lean hashes anything: it is a label: what it is worth is what the hold of that sum in a sandbox is worth. -/
noncomputable def Try.pinned : Pinned := { name := "ytcilcmbailoeaaa", sum := "4a18c7da55c1eb14db49060a87f21b41420189497735c0d4bc76c371d62235fc", checked := Try.checked }
namespace Rows
def none {H : Type} : Left H := { results := [], args := [] }

/-- 'kedgelaw19.SumsParts': WHATEVER THE INPUT: true; the input reads as it did. -/
def sumsPartsSpec : ChangeSpec := { name := "sumsParts", fn := fun _ => fun
  | [d1, d2] => { results := [.lit (.bool true)], args := [d1, d2] }
  | _ => none }
def sumsPartsRow : OpenClaim := { program := "ytcilcmbailoeaaa", sum := "4a18c7da55c1eb14db49060a87f21b41420189497735c0d4bc76c371d62235fc", func := "kedge/kedgelaw19.SumsParts", spec := "sumsParts", unfollowed := true, recurses := true, apart := false }
def SumsPartsSaid : Prop := sumsPartsRow.holds Try.pinned (OpenSpec.ofChange sumsPartsSpec)

/-- ITS FALSE NEIGHBOUR: 'it returns false'. Refute it at one input. -/
def sumsPartsWrong : ChangeSpec := { name := "sumsParts", fn := fun _ => fun
  | [d1, d2] => { results := [.lit (.bool false)], args := [d1, d2] }
  | _ => none }
def SumsPartsWrongFalsely : Prop := sumsPartsRow.holds Try.pinned (OpenSpec.ofChange sumsPartsWrong)

/-- 'kedgelaw19.SumsOrder': WHATEVER THE INPUT: true; the input reads as it did. -/
def sumsOrderSpec : ChangeSpec := { name := "sumsOrder", fn := fun _ => fun
  | [d1, d2, d3] => { results := [.lit (.bool true)], args := [d1, d2, d3] }
  | _ => none }
def sumsOrderRow : OpenClaim := { program := "ytcilcmbailoeaaa", sum := "4a18c7da55c1eb14db49060a87f21b41420189497735c0d4bc76c371d62235fc", func := "kedge/kedgelaw19.SumsOrder", spec := "sumsOrder", unfollowed := true, recurses := true, apart := false }
def SumsOrderSaid : Prop := sumsOrderRow.holds Try.pinned (OpenSpec.ofChange sumsOrderSpec)

/-- ITS FALSE NEIGHBOUR: 'it returns false'. Refute it at one input. -/
def sumsOrderWrong : ChangeSpec := { name := "sumsOrder", fn := fun _ => fun
  | [d1, d2, d3] => { results := [.lit (.bool false)], args := [d1, d2, d3] }
  | _ => none }
def SumsOrderWrongFalsely : Prop := sumsOrderRow.holds Try.pinned (OpenSpec.ofChange sumsOrderWrong)

/-- 'kedgelaw19.SumsFill': WHATEVER THE INPUT: true; the input reads as it did. -/
def sumsFillSpec : ChangeSpec := { name := "sumsFill", fn := fun _ => fun
  | [d1, d2] => { results := [.lit (.bool true)], args := [d1, d2] }
  | _ => none }
def sumsFillRow : OpenClaim := { program := "ytcilcmbailoeaaa", sum := "4a18c7da55c1eb14db49060a87f21b41420189497735c0d4bc76c371d62235fc", func := "kedge/kedgelaw19.SumsFill", spec := "sumsFill", unfollowed := true, recurses := true, apart := false }
def SumsFillSaid : Prop := sumsFillRow.holds Try.pinned (OpenSpec.ofChange sumsFillSpec)

/-- ITS FALSE NEIGHBOUR: 'it returns false'. Refute it at one input. -/
def sumsFillWrong : ChangeSpec := { name := "sumsFill", fn := fun _ => fun
  | [d1, d2] => { results := [.lit (.bool false)], args := [d1, d2] }
  | _ => none }
def SumsFillWrongFalsely : Prop := sumsFillRow.holds Try.pinned (OpenSpec.ofChange sumsFillWrong)

/-- 'kedgelaw19.SumsAre': WHATEVER THE INPUT: true; the input reads as it did. -/
def sumsAreSpec : ChangeSpec := { name := "sumsAre", fn := fun _ => fun
  | [d1, d2, d3, d4, d5] => { results := [.lit (.bool true)], args := [d1, d2, d3, d4, d5] }
  | _ => none }
def sumsAreRow : OpenClaim := { program := "ytcilcmbailoeaaa", sum := "4a18c7da55c1eb14db49060a87f21b41420189497735c0d4bc76c371d62235fc", func := "kedge/kedgelaw19.SumsAre", spec := "sumsAre", unfollowed := true, recurses := true, apart := false }
def SumsAreSaid : Prop := sumsAreRow.holds Try.pinned (OpenSpec.ofChange sumsAreSpec)

/-- ITS FALSE NEIGHBOUR: 'it returns false'. Refute it at one input. -/
def sumsAreWrong : ChangeSpec := { name := "sumsAre", fn := fun _ => fun
  | [d1, d2, d3, d4, d5] => { results := [.lit (.bool false)], args := [d1, d2, d3, d4, d5] }
  | _ => none }
def SumsAreWrongFalsely : Prop := sumsAreRow.holds Try.pinned (OpenSpec.ofChange sumsAreWrong)

/-- 'kedgelaw04.WireApart': WHATEVER THE INPUT: true; the input reads as it did. -/
def wireApartSpec : ChangeSpec := { name := "wireApart", fn := fun _ => fun
  | [d1, d2] => { results := [.lit (.bool true)], args := [d1, d2] }
  | _ => none }
def wireApartRow : OpenClaim := { program := "ytcilcmbailoeaaa", sum := "4a18c7da55c1eb14db49060a87f21b41420189497735c0d4bc76c371d62235fc", func := "kedge/kedgelaw04.WireApart", spec := "wireApart", apart := false }
def WireApartSaid : Prop := wireApartRow.holds Try.pinned (OpenSpec.ofChange wireApartSpec)

/-- ITS FALSE NEIGHBOUR: 'it returns false'. Refute it at one input. -/
def wireApartWrong : ChangeSpec := { name := "wireApart", fn := fun _ => fun
  | [d1, d2] => { results := [.lit (.bool false)], args := [d1, d2] }
  | _ => none }
def WireApartWrongFalsely : Prop := wireApartRow.holds Try.pinned (OpenSpec.ofChange wireApartWrong)

/-- 'kedgelaw04.WireGood': WHATEVER THE INPUT: true; the input reads as it did. -/
def wireGoodSpec : ChangeSpec := { name := "wireGood", fn := fun _ => fun
  | [d] => { results := [.lit (.bool true)], args := [d] }
  | _ => none }
def wireGoodRow : OpenClaim := { program := "ytcilcmbailoeaaa", sum := "4a18c7da55c1eb14db49060a87f21b41420189497735c0d4bc76c371d62235fc", func := "kedge/kedgelaw04.WireGood", spec := "wireGood", apart := false }
def WireGoodSaid : Prop := wireGoodRow.holds Try.pinned (OpenSpec.ofChange wireGoodSpec)

/-- ITS FALSE NEIGHBOUR: 'it returns false'. Refute it at one input. -/
def wireGoodWrong : ChangeSpec := { name := "wireGood", fn := fun _ => fun
  | [d] => { results := [.lit (.bool false)], args := [d] }
  | _ => none }
def WireGoodWrongFalsely : Prop := wireGoodRow.holds Try.pinned (OpenSpec.ofChange wireGoodWrong)

/-- 'kedgelaw04.WireBack': WHATEVER THE INPUT: true; the input reads as it did. -/
def wireBackSpec : ChangeSpec := { name := "wireBack", fn := fun _ => fun
  | [d1, d2] => { results := [.lit (.bool true)], args := [d1, d2] }
  | _ => none }
def wireBackRow : OpenClaim := { program := "ytcilcmbailoeaaa", sum := "4a18c7da55c1eb14db49060a87f21b41420189497735c0d4bc76c371d62235fc", func := "kedge/kedgelaw04.WireBack", spec := "wireBack", apart := false }
def WireBackSaid : Prop := wireBackRow.holds Try.pinned (OpenSpec.ofChange wireBackSpec)

/-- ITS FALSE NEIGHBOUR: 'it returns false'. Refute it at one input. -/
def wireBackWrong : ChangeSpec := { name := "wireBack", fn := fun _ => fun
  | [d1, d2] => { results := [.lit (.bool false)], args := [d1, d2] }
  | _ => none }
def WireBackWrongFalsely : Prop := wireBackRow.holds Try.pinned (OpenSpec.ofChange wireBackWrong)

/-- 'kedgelaw04.WireRows': WHATEVER THE INPUT: true; the input reads as it did. -/
def wireRowsSpec : ChangeSpec := { name := "wireRows", fn := fun _ => fun
  | [d1, d2] => { results := [.lit (.bool true)], args := [d1, d2] }
  | _ => none }
def wireRowsRow : OpenClaim := { program := "ytcilcmbailoeaaa", sum := "4a18c7da55c1eb14db49060a87f21b41420189497735c0d4bc76c371d62235fc", func := "kedge/kedgelaw04.WireRows", spec := "wireRows", unfollowed := true, recurses := true, apart := false }
def WireRowsSaid : Prop := wireRowsRow.holds Try.pinned (OpenSpec.ofChange wireRowsSpec)

/-- ITS FALSE NEIGHBOUR: 'it returns false'. Refute it at one input. -/
def wireRowsWrong : ChangeSpec := { name := "wireRows", fn := fun _ => fun
  | [d1, d2] => { results := [.lit (.bool false)], args := [d1, d2] }
  | _ => none }
def WireRowsWrongFalsely : Prop := wireRowsRow.holds Try.pinned (OpenSpec.ofChange wireRowsWrong)

/-- 'kedgelaw11.SketchPlays': WHATEVER THE INPUT: true; the input reads as it did. -/
def sketchPlaysSpec : ChangeSpec := { name := "sketchPlays", fn := fun _ => fun
  | [d1, d2, d3, d4, d5] => { results := [.lit (.bool true)], args := [d1, d2, d3, d4, d5] }
  | _ => none }
def sketchPlaysRow : OpenClaim := { program := "ytcilcmbailoeaaa", sum := "4a18c7da55c1eb14db49060a87f21b41420189497735c0d4bc76c371d62235fc", func := "kedge/kedgelaw11.SketchPlays", spec := "sketchPlays", unfollowed := true, recurses := true, apart := false }
def SketchPlaysSaid : Prop := sketchPlaysRow.holds Try.pinned (OpenSpec.ofChange sketchPlaysSpec)

/-- ITS FALSE NEIGHBOUR: 'it returns false'. Refute it at one input. -/
def sketchPlaysWrong : ChangeSpec := { name := "sketchPlays", fn := fun _ => fun
  | [d1, d2, d3, d4, d5] => { results := [.lit (.bool false)], args := [d1, d2, d3, d4, d5] }
  | _ => none }
def SketchPlaysWrongFalsely : Prop := sketchPlaysRow.holds Try.pinned (OpenSpec.ofChange sketchPlaysWrong)

/-- 'kedgelaw11.SketchNone': WHATEVER THE INPUT: true; the input reads as it did. -/
def sketchNoneSpec : ChangeSpec := { name := "sketchNone", fn := fun _ => fun
  | [d] => { results := [.lit (.bool true)], args := [d] }
  | _ => none }
def sketchNoneRow : OpenClaim := { program := "ytcilcmbailoeaaa", sum := "4a18c7da55c1eb14db49060a87f21b41420189497735c0d4bc76c371d62235fc", func := "kedge/kedgelaw11.SketchNone", spec := "sketchNone", unfollowed := true, recurses := true, apart := false }
def SketchNoneSaid : Prop := sketchNoneRow.holds Try.pinned (OpenSpec.ofChange sketchNoneSpec)

/-- ITS FALSE NEIGHBOUR: 'it returns false'. Refute it at one input. -/
def sketchNoneWrong : ChangeSpec := { name := "sketchNone", fn := fun _ => fun
  | [d] => { results := [.lit (.bool false)], args := [d] }
  | _ => none }
def SketchNoneWrongFalsely : Prop := sketchNoneRow.holds Try.pinned (OpenSpec.ofChange sketchNoneWrong)

/-- 'kedgelaw11.SketchLeast': WHATEVER THE INPUT: true; the input reads as it did. -/
def sketchLeastSpec : ChangeSpec := { name := "sketchLeast", fn := fun _ => fun
  | [d1, d2, d3, d4] => { results := [.lit (.bool true)], args := [d1, d2, d3, d4] }
  | _ => none }
def sketchLeastRow : OpenClaim := { program := "ytcilcmbailoeaaa", sum := "4a18c7da55c1eb14db49060a87f21b41420189497735c0d4bc76c371d62235fc", func := "kedge/kedgelaw11.SketchLeast", spec := "sketchLeast", unfollowed := true, recurses := true, apart := false }
def SketchLeastSaid : Prop := sketchLeastRow.holds Try.pinned (OpenSpec.ofChange sketchLeastSpec)

/-- ITS FALSE NEIGHBOUR: 'it returns false'. Refute it at one input. -/
def sketchLeastWrong : ChangeSpec := { name := "sketchLeast", fn := fun _ => fun
  | [d1, d2, d3, d4] => { results := [.lit (.bool false)], args := [d1, d2, d3, d4] }
  | _ => none }
def SketchLeastWrongFalsely : Prop := sketchLeastRow.holds Try.pinned (OpenSpec.ofChange sketchLeastWrong)

/-- 'kedgelaw11.SketchFull': WHATEVER THE INPUT: true; the input reads as it did. -/
def sketchFullSpec : ChangeSpec := { name := "sketchFull", fn := fun _ => fun
  | [d1, d2, d3] => { results := [.lit (.bool true)], args := [d1, d2, d3] }
  | _ => none }
def sketchFullRow : OpenClaim := { program := "ytcilcmbailoeaaa", sum := "4a18c7da55c1eb14db49060a87f21b41420189497735c0d4bc76c371d62235fc", func := "kedge/kedgelaw11.SketchFull", spec := "sketchFull", unfollowed := true, recurses := true, apart := false }
def SketchFullSaid : Prop := sketchFullRow.holds Try.pinned (OpenSpec.ofChange sketchFullSpec)

/-- ITS FALSE NEIGHBOUR: 'it returns false'. Refute it at one input. -/
def sketchFullWrong : ChangeSpec := { name := "sketchFull", fn := fun _ => fun
  | [d1, d2, d3] => { results := [.lit (.bool false)], args := [d1, d2, d3] }
  | _ => none }
def SketchFullWrongFalsely : Prop := sketchFullRow.holds Try.pinned (OpenSpec.ofChange sketchFullWrong)

/-- 'kedgelaw11.SketchApart': WHATEVER THE INPUT: true; the input reads as it did. -/
def sketchApartSpec : ChangeSpec := { name := "sketchApart", fn := fun _ => fun
  | [d1, d2, d3, d4] => { results := [.lit (.bool true)], args := [d1, d2, d3, d4] }
  | _ => none }
def sketchApartRow : OpenClaim := { program := "ytcilcmbailoeaaa", sum := "4a18c7da55c1eb14db49060a87f21b41420189497735c0d4bc76c371d62235fc", func := "kedge/kedgelaw11.SketchApart", spec := "sketchApart", unfollowed := true, recurses := true, apart := false }
def SketchApartSaid : Prop := sketchApartRow.holds Try.pinned (OpenSpec.ofChange sketchApartSpec)

/-- ITS FALSE NEIGHBOUR: 'it returns false'. Refute it at one input. -/
def sketchApartWrong : ChangeSpec := { name := "sketchApart", fn := fun _ => fun
  | [d1, d2, d3, d4] => { results := [.lit (.bool false)], args := [d1, d2, d3, d4] }
  | _ => none }
def SketchApartWrongFalsely : Prop := sketchApartRow.holds Try.pinned (OpenSpec.ofChange sketchApartWrong)

/-- 'kedgelaw20.Ipv4Back': WHATEVER THE INPUT: true; the input reads as it did. -/
def ipv4BackSpec : ChangeSpec := { name := "ipv4Back", fn := fun _ => fun
  | [d1, d2] => { results := [.lit (.bool true)], args := [d1, d2] }
  | _ => none }
def ipv4BackRow : OpenClaim := { program := "ytcilcmbailoeaaa", sum := "4a18c7da55c1eb14db49060a87f21b41420189497735c0d4bc76c371d62235fc", func := "kedge/kedgelaw20.Ipv4Back", spec := "ipv4Back", unfollowed := true, recurses := true, apart := false }
def Ipv4BackSaid : Prop := ipv4BackRow.holds Try.pinned (OpenSpec.ofChange ipv4BackSpec)

/-- ITS FALSE NEIGHBOUR: 'it returns false'. Refute it at one input. -/
def ipv4BackWrong : ChangeSpec := { name := "ipv4Back", fn := fun _ => fun
  | [d1, d2] => { results := [.lit (.bool false)], args := [d1, d2] }
  | _ => none }
def Ipv4BackWrongFalsely : Prop := ipv4BackRow.holds Try.pinned (OpenSpec.ofChange ipv4BackWrong)

/-- 'kedgelaw20.Ipv4Wrong': WHATEVER THE INPUT: true; the input reads as it did. -/
def ipv4WrongSpec : ChangeSpec := { name := "ipv4Wrong", fn := fun _ => fun
  | [d1, d2] => { results := [.lit (.bool true)], args := [d1, d2] }
  | _ => none }
def ipv4WrongRow : OpenClaim := { program := "ytcilcmbailoeaaa", sum := "4a18c7da55c1eb14db49060a87f21b41420189497735c0d4bc76c371d62235fc", func := "kedge/kedgelaw20.Ipv4Wrong", spec := "ipv4Wrong", unfollowed := true, recurses := true, apart := false }
def Ipv4WrongSaid : Prop := ipv4WrongRow.holds Try.pinned (OpenSpec.ofChange ipv4WrongSpec)

/-- ITS FALSE NEIGHBOUR: 'it returns false'. Refute it at one input. -/
def ipv4WrongWrong : ChangeSpec := { name := "ipv4Wrong", fn := fun _ => fun
  | [d1, d2] => { results := [.lit (.bool false)], args := [d1, d2] }
  | _ => none }
def Ipv4WrongWrongFalsely : Prop := ipv4WrongRow.holds Try.pinned (OpenSpec.ofChange ipv4WrongWrong)

/-- 'kedgelaw20.Ipv4Long': WHATEVER THE INPUT: true; the input reads as it did. -/
def ipv4LongSpec : ChangeSpec := { name := "ipv4Long", fn := fun _ => fun
  | [d1, d2] => { results := [.lit (.bool true)], args := [d1, d2] }
  | _ => none }
def ipv4LongRow : OpenClaim := { program := "ytcilcmbailoeaaa", sum := "4a18c7da55c1eb14db49060a87f21b41420189497735c0d4bc76c371d62235fc", func := "kedge/kedgelaw20.Ipv4Long", spec := "ipv4Long", unfollowed := true, recurses := true, apart := false }
def Ipv4LongSaid : Prop := ipv4LongRow.holds Try.pinned (OpenSpec.ofChange ipv4LongSpec)

/-- ITS FALSE NEIGHBOUR: 'it returns false'. Refute it at one input. -/
def ipv4LongWrong : ChangeSpec := { name := "ipv4Long", fn := fun _ => fun
  | [d1, d2] => { results := [.lit (.bool false)], args := [d1, d2] }
  | _ => none }
def Ipv4LongWrongFalsely : Prop := ipv4LongRow.holds Try.pinned (OpenSpec.ofChange ipv4LongWrong)

/-- 'kedgelaw04.WireIs': WHATEVER THE INPUT: true; the input reads as it did. -/
def wireIsSpec : ChangeSpec := { name := "wireIs", fn := fun _ => fun
  | [d1, d2] => { results := [.lit (.bool true)], args := [d1, d2] }
  | _ => none }
def wireIsRow : OpenClaim := { program := "ytcilcmbailoeaaa", sum := "4a18c7da55c1eb14db49060a87f21b41420189497735c0d4bc76c371d62235fc", func := "kedge/kedgelaw04.WireIs", spec := "wireIs", unfollowed := true, recurses := true, apart := false }
def WireIsSaid : Prop := wireIsRow.holds Try.pinned (OpenSpec.ofChange wireIsSpec)

/-- ITS FALSE NEIGHBOUR: 'it returns false'. Refute it at one input. -/
def wireIsWrong : ChangeSpec := { name := "wireIs", fn := fun _ => fun
  | [d1, d2] => { results := [.lit (.bool false)], args := [d1, d2] }
  | _ => none }
def WireIsWrongFalsely : Prop := wireIsRow.holds Try.pinned (OpenSpec.ofChange wireIsWrong)

/-- 'kedgelaw04.WireAll': WHATEVER THE INPUT: true; the input reads as it did. -/
def wireAllSpec : ChangeSpec := { name := "wireAll", fn := fun _ => fun
  | [d1, d2] => { results := [.lit (.bool true)], args := [d1, d2] }
  | _ => none }
def wireAllRow : OpenClaim := { program := "ytcilcmbailoeaaa", sum := "4a18c7da55c1eb14db49060a87f21b41420189497735c0d4bc76c371d62235fc", func := "kedge/kedgelaw04.WireAll", spec := "wireAll", unfollowed := true, recurses := true, apart := false }
def WireAllSaid : Prop := wireAllRow.holds Try.pinned (OpenSpec.ofChange wireAllSpec)

/-- ITS FALSE NEIGHBOUR: 'it returns false'. Refute it at one input. -/
def wireAllWrong : ChangeSpec := { name := "wireAll", fn := fun _ => fun
  | [d1, d2] => { results := [.lit (.bool false)], args := [d1, d2] }
  | _ => none }
def WireAllWrongFalsely : Prop := wireAllRow.holds Try.pinned (OpenSpec.ofChange wireAllWrong)

/-- 'kedgelaw20.Ipv4Hops': WHATEVER THE INPUT: true; the input reads as it did. -/
def ipv4HopsSpec : ChangeSpec := { name := "ipv4Hops", fn := fun _ => fun
  | [d] => { results := [.lit (.bool true)], args := [d] }
  | _ => none }
def ipv4HopsRow : OpenClaim := { program := "ytcilcmbailoeaaa", sum := "4a18c7da55c1eb14db49060a87f21b41420189497735c0d4bc76c371d62235fc", func := "kedge/kedgelaw20.Ipv4Hops", spec := "ipv4Hops", unfollowed := true, recurses := true, apart := false }
def Ipv4HopsSaid : Prop := ipv4HopsRow.holds Try.pinned (OpenSpec.ofChange ipv4HopsSpec)

/-- ITS FALSE NEIGHBOUR: 'it returns false'. Refute it at one input. -/
def ipv4HopsWrong : ChangeSpec := { name := "ipv4Hops", fn := fun _ => fun
  | [d] => { results := [.lit (.bool false)], args := [d] }
  | _ => none }
def Ipv4HopsWrongFalsely : Prop := ipv4HopsRow.holds Try.pinned (OpenSpec.ofChange ipv4HopsWrong)

/-- 'kedgelaw21.Ipv6Is': WHATEVER THE INPUT: true; the input reads as it did. -/
def ipv6IsSpec : ChangeSpec := { name := "ipv6Is", fn := fun _ => fun
  | [d1, d2, d3] => { results := [.lit (.bool true)], args := [d1, d2, d3] }
  | _ => none }
def ipv6IsRow : OpenClaim := { program := "ytcilcmbailoeaaa", sum := "4a18c7da55c1eb14db49060a87f21b41420189497735c0d4bc76c371d62235fc", func := "kedge/kedgelaw21.Ipv6Is", spec := "ipv6Is", apart := false }
def Ipv6IsSaid : Prop := ipv6IsRow.holds Try.pinned (OpenSpec.ofChange ipv6IsSpec)

/-- ITS FALSE NEIGHBOUR: 'it returns false'. Refute it at one input. -/
def ipv6IsWrong : ChangeSpec := { name := "ipv6Is", fn := fun _ => fun
  | [d1, d2, d3] => { results := [.lit (.bool false)], args := [d1, d2, d3] }
  | _ => none }
def Ipv6IsWrongFalsely : Prop := ipv6IsRow.holds Try.pinned (OpenSpec.ofChange ipv6IsWrong)

/-- 'kedgelaw21.Ipv6Back': WHATEVER THE INPUT: true; the input reads as it did. -/
def ipv6BackSpec : ChangeSpec := { name := "ipv6Back", fn := fun _ => fun
  | [d1, d2] => { results := [.lit (.bool true)], args := [d1, d2] }
  | _ => none }
def ipv6BackRow : OpenClaim := { program := "ytcilcmbailoeaaa", sum := "4a18c7da55c1eb14db49060a87f21b41420189497735c0d4bc76c371d62235fc", func := "kedge/kedgelaw21.Ipv6Back", spec := "ipv6Back", apart := false }
def Ipv6BackSaid : Prop := ipv6BackRow.holds Try.pinned (OpenSpec.ofChange ipv6BackSpec)

/-- ITS FALSE NEIGHBOUR: 'it returns false'. Refute it at one input. -/
def ipv6BackWrong : ChangeSpec := { name := "ipv6Back", fn := fun _ => fun
  | [d1, d2] => { results := [.lit (.bool false)], args := [d1, d2] }
  | _ => none }
def Ipv6BackWrongFalsely : Prop := ipv6BackRow.holds Try.pinned (OpenSpec.ofChange ipv6BackWrong)

/-- 'kedgelaw21.Ipv6Hops': WHATEVER THE INPUT: true; the input reads as it did. -/
def ipv6HopsSpec : ChangeSpec := { name := "ipv6Hops", fn := fun _ => fun
  | [d] => { results := [.lit (.bool true)], args := [d] }
  | _ => none }
def ipv6HopsRow : OpenClaim := { program := "ytcilcmbailoeaaa", sum := "4a18c7da55c1eb14db49060a87f21b41420189497735c0d4bc76c371d62235fc", func := "kedge/kedgelaw21.Ipv6Hops", spec := "ipv6Hops", apart := false }
def Ipv6HopsSaid : Prop := ipv6HopsRow.holds Try.pinned (OpenSpec.ofChange ipv6HopsSpec)

/-- ITS FALSE NEIGHBOUR: 'it returns false'. Refute it at one input. -/
def ipv6HopsWrong : ChangeSpec := { name := "ipv6Hops", fn := fun _ => fun
  | [d] => { results := [.lit (.bool false)], args := [d] }
  | _ => none }
def Ipv6HopsWrongFalsely : Prop := ipv6HopsRow.holds Try.pinned (OpenSpec.ofChange ipv6HopsWrong)

/-- 'kedgelaw21.Ipv6Short': WHATEVER THE INPUT: true; the input reads as it did. -/
def ipv6ShortSpec : ChangeSpec := { name := "ipv6Short", fn := fun _ => fun
  | [d1, d2] => { results := [.lit (.bool true)], args := [d1, d2] }
  | _ => none }
def ipv6ShortRow : OpenClaim := { program := "ytcilcmbailoeaaa", sum := "4a18c7da55c1eb14db49060a87f21b41420189497735c0d4bc76c371d62235fc", func := "kedge/kedgelaw21.Ipv6Short", spec := "ipv6Short", apart := false }
def Ipv6ShortSaid : Prop := ipv6ShortRow.holds Try.pinned (OpenSpec.ofChange ipv6ShortSpec)

/-- ITS FALSE NEIGHBOUR: 'it returns false'. Refute it at one input. -/
def ipv6ShortWrong : ChangeSpec := { name := "ipv6Short", fn := fun _ => fun
  | [d1, d2] => { results := [.lit (.bool false)], args := [d1, d2] }
  | _ => none }
def Ipv6ShortWrongFalsely : Prop := ipv6ShortRow.holds Try.pinned (OpenSpec.ofChange ipv6ShortWrong)

/-- 'kedgelaw21.Ipv6Wrong': WHATEVER THE INPUT: true; the input reads as it did. -/
def ipv6WrongSpec : ChangeSpec := { name := "ipv6Wrong", fn := fun _ => fun
  | [d1, d2] => { results := [.lit (.bool true)], args := [d1, d2] }
  | _ => none }
def ipv6WrongRow : OpenClaim := { program := "ytcilcmbailoeaaa", sum := "4a18c7da55c1eb14db49060a87f21b41420189497735c0d4bc76c371d62235fc", func := "kedge/kedgelaw21.Ipv6Wrong", spec := "ipv6Wrong", apart := false }
def Ipv6WrongSaid : Prop := ipv6WrongRow.holds Try.pinned (OpenSpec.ofChange ipv6WrongSpec)

/-- ITS FALSE NEIGHBOUR: 'it returns false'. Refute it at one input. -/
def ipv6WrongWrong : ChangeSpec := { name := "ipv6Wrong", fn := fun _ => fun
  | [d1, d2] => { results := [.lit (.bool false)], args := [d1, d2] }
  | _ => none }
def Ipv6WrongWrongFalsely : Prop := ipv6WrongRow.holds Try.pinned (OpenSpec.ofChange ipv6WrongWrong)

/-- 'kedgelaw12.VictimLight': WHATEVER THE INPUT: true; the input reads as it did. -/
def victimLightSpec : ChangeSpec := { name := "victimLight", fn := fun _ => fun
  | [d] => { results := [.lit (.bool true)], args := [d] }
  | _ => none }
def victimLightRow : OpenClaim := { program := "ytcilcmbailoeaaa", sum := "4a18c7da55c1eb14db49060a87f21b41420189497735c0d4bc76c371d62235fc", func := "kedge/kedgelaw12.VictimLight", spec := "victimLight", unfollowed := true, recurses := true, apart := false }
def VictimLightSaid : Prop := victimLightRow.holds Try.pinned (OpenSpec.ofChange victimLightSpec)

/-- ITS FALSE NEIGHBOUR: 'it returns false'. Refute it at one input. -/
def victimLightWrong : ChangeSpec := { name := "victimLight", fn := fun _ => fun
  | [d] => { results := [.lit (.bool false)], args := [d] }
  | _ => none }
def VictimLightWrongFalsely : Prop := victimLightRow.holds Try.pinned (OpenSpec.ofChange victimLightWrong)

/-- 'kedgelaw12.VictimIs': WHATEVER THE INPUT: true; the input reads as it did. -/
def victimIsSpec : ChangeSpec := { name := "victimIs", fn := fun _ => fun
  | [d1, d2] => { results := [.lit (.bool true)], args := [d1, d2] }
  | _ => none }
def victimIsRow : OpenClaim := { program := "ytcilcmbailoeaaa", sum := "4a18c7da55c1eb14db49060a87f21b41420189497735c0d4bc76c371d62235fc", func := "kedge/kedgelaw12.VictimIs", spec := "victimIs", unfollowed := true, recurses := true, apart := false }
def VictimIsSaid : Prop := victimIsRow.holds Try.pinned (OpenSpec.ofChange victimIsSpec)

/-- ITS FALSE NEIGHBOUR: 'it returns false'. Refute it at one input. -/
def victimIsWrong : ChangeSpec := { name := "victimIs", fn := fun _ => fun
  | [d1, d2] => { results := [.lit (.bool false)], args := [d1, d2] }
  | _ => none }
def VictimIsWrongFalsely : Prop := victimIsRow.holds Try.pinned (OpenSpec.ofChange victimIsWrong)

/-- 'kedgelaw12.VictimRank': WHATEVER THE INPUT: true; the input reads as it did. -/
def victimRankSpec : ChangeSpec := { name := "victimRank", fn := fun _ => fun
  | [d1, d2] => { results := [.lit (.bool true)], args := [d1, d2] }
  | _ => none }
def victimRankRow : OpenClaim := { program := "ytcilcmbailoeaaa", sum := "4a18c7da55c1eb14db49060a87f21b41420189497735c0d4bc76c371d62235fc", func := "kedge/kedgelaw12.VictimRank", spec := "victimRank", unfollowed := true, recurses := true, apart := false }
def VictimRankSaid : Prop := victimRankRow.holds Try.pinned (OpenSpec.ofChange victimRankSpec)

/-- ITS FALSE NEIGHBOUR: 'it returns false'. Refute it at one input. -/
def victimRankWrong : ChangeSpec := { name := "victimRank", fn := fun _ => fun
  | [d1, d2] => { results := [.lit (.bool false)], args := [d1, d2] }
  | _ => none }
def VictimRankWrongFalsely : Prop := victimRankRow.holds Try.pinned (OpenSpec.ofChange victimRankWrong)

/-- 'kedgelaw12.VictimScores': WHATEVER THE INPUT: true; the input reads as it did. -/
def victimScoresSpec : ChangeSpec := { name := "victimScores", fn := fun _ => fun
  | [d] => { results := [.lit (.bool true)], args := [d] }
  | _ => none }
def victimScoresRow : OpenClaim := { program := "ytcilcmbailoeaaa", sum := "4a18c7da55c1eb14db49060a87f21b41420189497735c0d4bc76c371d62235fc", func := "kedge/kedgelaw12.VictimScores", spec := "victimScores", unfollowed := true, recurses := true, apart := false }
def VictimScoresSaid : Prop := victimScoresRow.holds Try.pinned (OpenSpec.ofChange victimScoresSpec)

/-- ITS FALSE NEIGHBOUR: 'it returns false'. Refute it at one input. -/
def victimScoresWrong : ChangeSpec := { name := "victimScores", fn := fun _ => fun
  | [d] => { results := [.lit (.bool false)], args := [d] }
  | _ => none }
def VictimScoresWrongFalsely : Prop := victimScoresRow.holds Try.pinned (OpenSpec.ofChange victimScoresWrong)

/- THE SECOND FORM. 'bulk': how many values and letters a reading holds, each counted each time it is reached (what is shared counts as often as it is met; a slice's spare places count too). A statement '..UptoSaid' is the law's where the arguments, and the package variables that the reading takes, are together of bulk at most 1048576: NARROWER than '..Said'. Prove '..Said' where nothing that the law and all that it calls make is longer than what came in: it says more and counts as full. Else prove '..UptoSaid'. A law counts once. -/
mutual
def uptoBulk {H : Type} : DataW H → Nat
  | .lit (.string bytes) => bytes.length + 1
  | .lit _ => 1
  | .nil => 1
  | .ptr d => uptoBulk d + 1
  | .slice elems spare => uptoBulkAll elems + uptoBulkAll spare + 1
  | .agg parts => uptoBulkAll parts + 1
  | .iface _ d => uptoBulk d + 1
  | .map entries => uptoBulkEntries entries + 1
  | .held _ => 1
def uptoBulkAll {H : Type} : List (DataW H) → Nat
  | [] => 0
  | d :: r => uptoBulk d + uptoBulkAll r
def uptoBulkEntries {H : Type} : List (Lit × DataW H) → Nat
  | [] => 0
  | x :: r => uptoBulkEntry x + uptoBulkEntries r
def uptoBulkEntry {H : Type} : Lit × DataW H → Nat
  | (.string bytes, d) => bytes.length + uptoBulk d + 1
  | (_, d) => uptoBulk d + 1
 end
def uptoSmall : (H : Type) → List (DataW H) → Bool := fun _ ds => decide (uptoBulkAll ds ≤ 1048576)
def OpenSpec.upto (s : _root_.Go.ChangeSpec) : _root_.Go.OpenSpec := { _root_.Go.OpenSpec.ofChange s with cond := some uptoSmall }

/-- 'kedgelaw19.SumsParts', WHERE WHAT IT READS IS OF BULK AT MOST 1048576: true; the input reads as it did. -/
def sumsPartsUptoRow : OpenClaim := { program := "ytcilcmbailoeaaa", sum := "4a18c7da55c1eb14db49060a87f21b41420189497735c0d4bc76c371d62235fc", func := "kedge/kedgelaw19.SumsParts", spec := "sumsParts", unfollowed := true, recurses := true, apart := false, narrowed := true }
def SumsPartsUptoSaid : Prop := sumsPartsUptoRow.holds Try.pinned (OpenSpec.upto sumsPartsSpec)

/-- 'kedgelaw19.SumsOrder', WHERE WHAT IT READS IS OF BULK AT MOST 1048576: true; the input reads as it did. -/
def sumsOrderUptoRow : OpenClaim := { program := "ytcilcmbailoeaaa", sum := "4a18c7da55c1eb14db49060a87f21b41420189497735c0d4bc76c371d62235fc", func := "kedge/kedgelaw19.SumsOrder", spec := "sumsOrder", unfollowed := true, recurses := true, apart := false, narrowed := true }
def SumsOrderUptoSaid : Prop := sumsOrderUptoRow.holds Try.pinned (OpenSpec.upto sumsOrderSpec)

/-- 'kedgelaw19.SumsFill', WHERE WHAT IT READS IS OF BULK AT MOST 1048576: true; the input reads as it did. -/
def sumsFillUptoRow : OpenClaim := { program := "ytcilcmbailoeaaa", sum := "4a18c7da55c1eb14db49060a87f21b41420189497735c0d4bc76c371d62235fc", func := "kedge/kedgelaw19.SumsFill", spec := "sumsFill", unfollowed := true, recurses := true, apart := false, narrowed := true }
def SumsFillUptoSaid : Prop := sumsFillUptoRow.holds Try.pinned (OpenSpec.upto sumsFillSpec)

/-- 'kedgelaw19.SumsAre', WHERE WHAT IT READS IS OF BULK AT MOST 1048576: true; the input reads as it did. -/
def sumsAreUptoRow : OpenClaim := { program := "ytcilcmbailoeaaa", sum := "4a18c7da55c1eb14db49060a87f21b41420189497735c0d4bc76c371d62235fc", func := "kedge/kedgelaw19.SumsAre", spec := "sumsAre", unfollowed := true, recurses := true, apart := false, narrowed := true }
def SumsAreUptoSaid : Prop := sumsAreUptoRow.holds Try.pinned (OpenSpec.upto sumsAreSpec)

/-- 'kedgelaw04.WireApart', WHERE WHAT IT READS IS OF BULK AT MOST 1048576: true; the input reads as it did. -/
def wireApartUptoRow : OpenClaim := { program := "ytcilcmbailoeaaa", sum := "4a18c7da55c1eb14db49060a87f21b41420189497735c0d4bc76c371d62235fc", func := "kedge/kedgelaw04.WireApart", spec := "wireApart", apart := false, narrowed := true }
def WireApartUptoSaid : Prop := wireApartUptoRow.holds Try.pinned (OpenSpec.upto wireApartSpec)

/-- 'kedgelaw04.WireGood', WHERE WHAT IT READS IS OF BULK AT MOST 1048576: true; the input reads as it did. -/
def wireGoodUptoRow : OpenClaim := { program := "ytcilcmbailoeaaa", sum := "4a18c7da55c1eb14db49060a87f21b41420189497735c0d4bc76c371d62235fc", func := "kedge/kedgelaw04.WireGood", spec := "wireGood", apart := false, narrowed := true }
def WireGoodUptoSaid : Prop := wireGoodUptoRow.holds Try.pinned (OpenSpec.upto wireGoodSpec)

/-- 'kedgelaw04.WireBack', WHERE WHAT IT READS IS OF BULK AT MOST 1048576: true; the input reads as it did. -/
def wireBackUptoRow : OpenClaim := { program := "ytcilcmbailoeaaa", sum := "4a18c7da55c1eb14db49060a87f21b41420189497735c0d4bc76c371d62235fc", func := "kedge/kedgelaw04.WireBack", spec := "wireBack", apart := false, narrowed := true }
def WireBackUptoSaid : Prop := wireBackUptoRow.holds Try.pinned (OpenSpec.upto wireBackSpec)

/-- 'kedgelaw04.WireRows', WHERE WHAT IT READS IS OF BULK AT MOST 1048576: true; the input reads as it did. -/
def wireRowsUptoRow : OpenClaim := { program := "ytcilcmbailoeaaa", sum := "4a18c7da55c1eb14db49060a87f21b41420189497735c0d4bc76c371d62235fc", func := "kedge/kedgelaw04.WireRows", spec := "wireRows", unfollowed := true, recurses := true, apart := false, narrowed := true }
def WireRowsUptoSaid : Prop := wireRowsUptoRow.holds Try.pinned (OpenSpec.upto wireRowsSpec)

/-- 'kedgelaw11.SketchPlays', WHERE WHAT IT READS IS OF BULK AT MOST 1048576: true; the input reads as it did. -/
def sketchPlaysUptoRow : OpenClaim := { program := "ytcilcmbailoeaaa", sum := "4a18c7da55c1eb14db49060a87f21b41420189497735c0d4bc76c371d62235fc", func := "kedge/kedgelaw11.SketchPlays", spec := "sketchPlays", unfollowed := true, recurses := true, apart := false, narrowed := true }
def SketchPlaysUptoSaid : Prop := sketchPlaysUptoRow.holds Try.pinned (OpenSpec.upto sketchPlaysSpec)

/-- 'kedgelaw11.SketchNone', WHERE WHAT IT READS IS OF BULK AT MOST 1048576: true; the input reads as it did. -/
def sketchNoneUptoRow : OpenClaim := { program := "ytcilcmbailoeaaa", sum := "4a18c7da55c1eb14db49060a87f21b41420189497735c0d4bc76c371d62235fc", func := "kedge/kedgelaw11.SketchNone", spec := "sketchNone", unfollowed := true, recurses := true, apart := false, narrowed := true }
def SketchNoneUptoSaid : Prop := sketchNoneUptoRow.holds Try.pinned (OpenSpec.upto sketchNoneSpec)

/-- 'kedgelaw11.SketchLeast', WHERE WHAT IT READS IS OF BULK AT MOST 1048576: true; the input reads as it did. -/
def sketchLeastUptoRow : OpenClaim := { program := "ytcilcmbailoeaaa", sum := "4a18c7da55c1eb14db49060a87f21b41420189497735c0d4bc76c371d62235fc", func := "kedge/kedgelaw11.SketchLeast", spec := "sketchLeast", unfollowed := true, recurses := true, apart := false, narrowed := true }
def SketchLeastUptoSaid : Prop := sketchLeastUptoRow.holds Try.pinned (OpenSpec.upto sketchLeastSpec)

/-- 'kedgelaw11.SketchFull', WHERE WHAT IT READS IS OF BULK AT MOST 1048576: true; the input reads as it did. -/
def sketchFullUptoRow : OpenClaim := { program := "ytcilcmbailoeaaa", sum := "4a18c7da55c1eb14db49060a87f21b41420189497735c0d4bc76c371d62235fc", func := "kedge/kedgelaw11.SketchFull", spec := "sketchFull", unfollowed := true, recurses := true, apart := false, narrowed := true }
def SketchFullUptoSaid : Prop := sketchFullUptoRow.holds Try.pinned (OpenSpec.upto sketchFullSpec)

/-- 'kedgelaw11.SketchApart', WHERE WHAT IT READS IS OF BULK AT MOST 1048576: true; the input reads as it did. -/
def sketchApartUptoRow : OpenClaim := { program := "ytcilcmbailoeaaa", sum := "4a18c7da55c1eb14db49060a87f21b41420189497735c0d4bc76c371d62235fc", func := "kedge/kedgelaw11.SketchApart", spec := "sketchApart", unfollowed := true, recurses := true, apart := false, narrowed := true }
def SketchApartUptoSaid : Prop := sketchApartUptoRow.holds Try.pinned (OpenSpec.upto sketchApartSpec)

/-- 'kedgelaw20.Ipv4Back', WHERE WHAT IT READS IS OF BULK AT MOST 1048576: true; the input reads as it did. -/
def ipv4BackUptoRow : OpenClaim := { program := "ytcilcmbailoeaaa", sum := "4a18c7da55c1eb14db49060a87f21b41420189497735c0d4bc76c371d62235fc", func := "kedge/kedgelaw20.Ipv4Back", spec := "ipv4Back", unfollowed := true, recurses := true, apart := false, narrowed := true }
def Ipv4BackUptoSaid : Prop := ipv4BackUptoRow.holds Try.pinned (OpenSpec.upto ipv4BackSpec)

/-- 'kedgelaw20.Ipv4Wrong', WHERE WHAT IT READS IS OF BULK AT MOST 1048576: true; the input reads as it did. -/
def ipv4WrongUptoRow : OpenClaim := { program := "ytcilcmbailoeaaa", sum := "4a18c7da55c1eb14db49060a87f21b41420189497735c0d4bc76c371d62235fc", func := "kedge/kedgelaw20.Ipv4Wrong", spec := "ipv4Wrong", unfollowed := true, recurses := true, apart := false, narrowed := true }
def Ipv4WrongUptoSaid : Prop := ipv4WrongUptoRow.holds Try.pinned (OpenSpec.upto ipv4WrongSpec)

/-- 'kedgelaw20.Ipv4Long', WHERE WHAT IT READS IS OF BULK AT MOST 1048576: true; the input reads as it did. -/
def ipv4LongUptoRow : OpenClaim := { program := "ytcilcmbailoeaaa", sum := "4a18c7da55c1eb14db49060a87f21b41420189497735c0d4bc76c371d62235fc", func := "kedge/kedgelaw20.Ipv4Long", spec := "ipv4Long", unfollowed := true, recurses := true, apart := false, narrowed := true }
def Ipv4LongUptoSaid : Prop := ipv4LongUptoRow.holds Try.pinned (OpenSpec.upto ipv4LongSpec)

/-- 'kedgelaw04.WireIs', WHERE WHAT IT READS IS OF BULK AT MOST 1048576: true; the input reads as it did. -/
def wireIsUptoRow : OpenClaim := { program := "ytcilcmbailoeaaa", sum := "4a18c7da55c1eb14db49060a87f21b41420189497735c0d4bc76c371d62235fc", func := "kedge/kedgelaw04.WireIs", spec := "wireIs", unfollowed := true, recurses := true, apart := false, narrowed := true }
def WireIsUptoSaid : Prop := wireIsUptoRow.holds Try.pinned (OpenSpec.upto wireIsSpec)

/-- 'kedgelaw04.WireAll', WHERE WHAT IT READS IS OF BULK AT MOST 1048576: true; the input reads as it did. -/
def wireAllUptoRow : OpenClaim := { program := "ytcilcmbailoeaaa", sum := "4a18c7da55c1eb14db49060a87f21b41420189497735c0d4bc76c371d62235fc", func := "kedge/kedgelaw04.WireAll", spec := "wireAll", unfollowed := true, recurses := true, apart := false, narrowed := true }
def WireAllUptoSaid : Prop := wireAllUptoRow.holds Try.pinned (OpenSpec.upto wireAllSpec)

/-- 'kedgelaw20.Ipv4Hops', WHERE WHAT IT READS IS OF BULK AT MOST 1048576: true; the input reads as it did. -/
def ipv4HopsUptoRow : OpenClaim := { program := "ytcilcmbailoeaaa", sum := "4a18c7da55c1eb14db49060a87f21b41420189497735c0d4bc76c371d62235fc", func := "kedge/kedgelaw20.Ipv4Hops", spec := "ipv4Hops", unfollowed := true, recurses := true, apart := false, narrowed := true }
def Ipv4HopsUptoSaid : Prop := ipv4HopsUptoRow.holds Try.pinned (OpenSpec.upto ipv4HopsSpec)

/-- 'kedgelaw21.Ipv6Is', WHERE WHAT IT READS IS OF BULK AT MOST 1048576: true; the input reads as it did. -/
def ipv6IsUptoRow : OpenClaim := { program := "ytcilcmbailoeaaa", sum := "4a18c7da55c1eb14db49060a87f21b41420189497735c0d4bc76c371d62235fc", func := "kedge/kedgelaw21.Ipv6Is", spec := "ipv6Is", apart := false, narrowed := true }
def Ipv6IsUptoSaid : Prop := ipv6IsUptoRow.holds Try.pinned (OpenSpec.upto ipv6IsSpec)

/-- 'kedgelaw21.Ipv6Back', WHERE WHAT IT READS IS OF BULK AT MOST 1048576: true; the input reads as it did. -/
def ipv6BackUptoRow : OpenClaim := { program := "ytcilcmbailoeaaa", sum := "4a18c7da55c1eb14db49060a87f21b41420189497735c0d4bc76c371d62235fc", func := "kedge/kedgelaw21.Ipv6Back", spec := "ipv6Back", apart := false, narrowed := true }
def Ipv6BackUptoSaid : Prop := ipv6BackUptoRow.holds Try.pinned (OpenSpec.upto ipv6BackSpec)

/-- 'kedgelaw21.Ipv6Hops', WHERE WHAT IT READS IS OF BULK AT MOST 1048576: true; the input reads as it did. -/
def ipv6HopsUptoRow : OpenClaim := { program := "ytcilcmbailoeaaa", sum := "4a18c7da55c1eb14db49060a87f21b41420189497735c0d4bc76c371d62235fc", func := "kedge/kedgelaw21.Ipv6Hops", spec := "ipv6Hops", apart := false, narrowed := true }
def Ipv6HopsUptoSaid : Prop := ipv6HopsUptoRow.holds Try.pinned (OpenSpec.upto ipv6HopsSpec)

/-- 'kedgelaw21.Ipv6Short', WHERE WHAT IT READS IS OF BULK AT MOST 1048576: true; the input reads as it did. -/
def ipv6ShortUptoRow : OpenClaim := { program := "ytcilcmbailoeaaa", sum := "4a18c7da55c1eb14db49060a87f21b41420189497735c0d4bc76c371d62235fc", func := "kedge/kedgelaw21.Ipv6Short", spec := "ipv6Short", apart := false, narrowed := true }
def Ipv6ShortUptoSaid : Prop := ipv6ShortUptoRow.holds Try.pinned (OpenSpec.upto ipv6ShortSpec)

/-- 'kedgelaw21.Ipv6Wrong', WHERE WHAT IT READS IS OF BULK AT MOST 1048576: true; the input reads as it did. -/
def ipv6WrongUptoRow : OpenClaim := { program := "ytcilcmbailoeaaa", sum := "4a18c7da55c1eb14db49060a87f21b41420189497735c0d4bc76c371d62235fc", func := "kedge/kedgelaw21.Ipv6Wrong", spec := "ipv6Wrong", apart := false, narrowed := true }
def Ipv6WrongUptoSaid : Prop := ipv6WrongUptoRow.holds Try.pinned (OpenSpec.upto ipv6WrongSpec)

/-- 'kedgelaw12.VictimLight', WHERE WHAT IT READS IS OF BULK AT MOST 1048576: true; the input reads as it did. -/
def victimLightUptoRow : OpenClaim := { program := "ytcilcmbailoeaaa", sum := "4a18c7da55c1eb14db49060a87f21b41420189497735c0d4bc76c371d62235fc", func := "kedge/kedgelaw12.VictimLight", spec := "victimLight", unfollowed := true, recurses := true, apart := false, narrowed := true }
def VictimLightUptoSaid : Prop := victimLightUptoRow.holds Try.pinned (OpenSpec.upto victimLightSpec)

/-- 'kedgelaw12.VictimIs', WHERE WHAT IT READS IS OF BULK AT MOST 1048576: true; the input reads as it did. -/
def victimIsUptoRow : OpenClaim := { program := "ytcilcmbailoeaaa", sum := "4a18c7da55c1eb14db49060a87f21b41420189497735c0d4bc76c371d62235fc", func := "kedge/kedgelaw12.VictimIs", spec := "victimIs", unfollowed := true, recurses := true, apart := false, narrowed := true }
def VictimIsUptoSaid : Prop := victimIsUptoRow.holds Try.pinned (OpenSpec.upto victimIsSpec)

/-- 'kedgelaw12.VictimRank', WHERE WHAT IT READS IS OF BULK AT MOST 1048576: true; the input reads as it did. -/
def victimRankUptoRow : OpenClaim := { program := "ytcilcmbailoeaaa", sum := "4a18c7da55c1eb14db49060a87f21b41420189497735c0d4bc76c371d62235fc", func := "kedge/kedgelaw12.VictimRank", spec := "victimRank", unfollowed := true, recurses := true, apart := false, narrowed := true }
def VictimRankUptoSaid : Prop := victimRankUptoRow.holds Try.pinned (OpenSpec.upto victimRankSpec)

/-- 'kedgelaw12.VictimScores', WHERE WHAT IT READS IS OF BULK AT MOST 1048576: true; the input reads as it did. -/
def victimScoresUptoRow : OpenClaim := { program := "ytcilcmbailoeaaa", sum := "4a18c7da55c1eb14db49060a87f21b41420189497735c0d4bc76c371d62235fc", func := "kedge/kedgelaw12.VictimScores", spec := "victimScores", unfollowed := true, recurses := true, apart := false, narrowed := true }
def VictimScoresUptoSaid : Prop := victimScoresUptoRow.holds Try.pinned (OpenSpec.upto victimScoresSpec)

end Rows
end Go.Proofs.Ytcilcmbailoeaaa
