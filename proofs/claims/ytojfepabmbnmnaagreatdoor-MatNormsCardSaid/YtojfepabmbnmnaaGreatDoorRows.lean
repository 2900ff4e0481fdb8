/-
  NARROWER THAN 'FOR EVERY INPUT', by the rows' own cells (each row's printed sentence says how): VecReckons: laid · VecScales: laid · VecShapes: laid · VecUnits: laid · VecHolds: laid · MatReckons: laid · MatHolds: laid · MatNorms: laid · MatShapes: laid · MatGroups: laid.
  DERIVED. THE GIVEN ROWS OF THIS SEAT. 10 by the template 'for every input the law returns true; each argument reads behind the call as it read before'; 0 by the template 'total and deterministic' (their statements: YtojfepabmbnmnaaGreatDoorTotals.lean).
  GIVEN WITH THE SEED: the statements are not yours to turn. If you find one false, say at which input.
  Laid BY PROGRAM, IN A SANDBOX (cutbox-rows.mjs): the forced cells as the released guide's own fill.sh prints them over the translation 5b7936240baecda5… (all of the seat's roots in one cut). By AI agents, Wed Nov 11 2026. No macro, syntax, notation, axiom, sorry.
-/
import Derived.Test.YtojfepabmbnmnaaGreatDoorChecked
import GoSem.PinnedTables
import GoSem.Claim
import GoSem.ClaimJoined
import GoSem.ClaimMapViews
import Derived.JoinedTies
import Derived.KernelRfl
namespace Go.Proofs.YtojfepabmbnmnaaGreatDoor
/- THE CELL 'sum', in the pinned program and in every row, IS THE sha256 OF THE DUMP (.gsa) THAT YtojfepabmbnmnaaGreatDoorProg.lean LOADS. Nothing in Lean hashes anything: it is a label: what it is worth is what the hold of that sum in a sandbox is worth. -/
noncomputable def Tryz.pinned : Pinned := { name := "ytojfepabmbnmnaagreatdoor", sum := "5b7936240baecda5980635fe4840059ff816dbbf5cafb9bd9dc100a8a787c37c", checked := Tryz.checked }
namespace Rows
def none {H : Type} : Left H := { results := [], args := [] }

/- WHAT THE LISTED PACKAGE-LEVEL VARIABLES READ AS WHEN THE CALL BEGINS. Each datum BY PROGRAM (the guide's laid-datum.mjs) off the statement by which the dump's own 'gosem.cut.vars' lays the variable. In a bare row this is a premise. The card (YtojfepabmbnmnaaGreatDoorCards.lean) ties it to the program's text. -/
def laid_math_bits_deBruijn32tab {H : Type} : DataW H := .agg [.lit (.int .u8 0), .lit (.int .u8 1), .lit (.int .u8 28), .lit (.int .u8 2), .lit (.int .u8 29), .lit (.int .u8 14), .lit (.int .u8 24), .lit (.int .u8 3), .lit (.int .u8 30), .lit (.int .u8 22), .lit (.int .u8 20), .lit (.int .u8 15), .lit (.int .u8 25), .lit (.int .u8 17), .lit (.int .u8 4), .lit (.int .u8 8), .lit (.int .u8 31), .lit (.int .u8 27), .lit (.int .u8 13), .lit (.int .u8 23), .lit (.int .u8 21), .lit (.int .u8 19), .lit (.int .u8 16), .lit (.int .u8 7), .lit (.int .u8 26), .lit (.int .u8 12), .lit (.int .u8 18), .lit (.int .u8 6), .lit (.int .u8 11), .lit (.int .u8 5), .lit (.int .u8 10), .lit (.int .u8 9)]
def laid_unicode_utf8_acceptRanges {H : Type} : DataW H := .agg [.agg [.lit (.int .u8 128), .lit (.int .u8 191)], .agg [.lit (.int .u8 160), .lit (.int .u8 191)], .agg [.lit (.int .u8 128), .lit (.int .u8 159)], .agg [.lit (.int .u8 144), .lit (.int .u8 191)], .agg [.lit (.int .u8 128), .lit (.int .u8 143)], .agg [.lit (.int .u8 0), .lit (.int .u8 0)], .agg [.lit (.int .u8 0), .lit (.int .u8 0)], .agg [.lit (.int .u8 0), .lit (.int .u8 0)], .agg [.lit (.int .u8 0), .lit (.int .u8 0)], .agg [.lit (.int .u8 0), .lit (.int .u8 0)], .agg [.lit (.int .u8 0), .lit (.int .u8 0)], .agg [.lit (.int .u8 0), .lit (.int .u8 0)], .agg [.lit (.int .u8 0), .lit (.int .u8 0)], .agg [.lit (.int .u8 0), .lit (.int .u8 0)], .agg [.lit (.int .u8 0), .lit (.int .u8 0)], .agg [.lit (.int .u8 0), .lit (.int .u8 0)]]
/-- One of Go's own tables, pinned by name: the form's constant. -/
def laid_unicode_utf8_first : DataW Unit := Go.Pinned.utf8First

/-- 'girdlelaw07.VecReckons': WHATEVER THE INPUT: true; the input reads as it did. -/
def vecReckonsSpec : ChangeSpec := { name := "vecReckons", fn := fun _ => fun
  | [d1, d2, d3] => { results := [.lit (.bool true)], args := [d1, d2, d3] }
  | _ => none }
def vecReckonsRow : OpenClaim := { program := "ytojfepabmbnmnaagreatdoor", sum := "5b7936240baecda5980635fe4840059ff816dbbf5cafb9bd9dc100a8a787c37c", func := "girdle/girdlelaw07.VecReckons", spec := "vecReckons", inPlace := ["internal/bytealg.IndexByteString", "internal/bytealg.IndexString"], unfollowed := true, recurses := true, named := ["math/bits.deBruijn32tab", "unicode/utf8.first", "unicode/utf8.acceptRanges", "internal/bytealg.MaxLen"], apart := false, laid := [("math/bits.deBruijn32tab", laid_math_bits_deBruijn32tab), ("unicode/utf8.acceptRanges", laid_unicode_utf8_acceptRanges), ("unicode/utf8.first", laid_unicode_utf8_first)] }
def VecReckonsSaid : Prop := vecReckonsRow.holds Tryz.pinned (OpenSpec.ofChange vecReckonsSpec)

/-- ITS FALSE NEIGHBOUR: 'it returns false'. Refute it at one input. -/
def vecReckonsWrong : ChangeSpec := { name := "vecReckons", fn := fun _ => fun
  | [d1, d2, d3] => { results := [.lit (.bool false)], args := [d1, d2, d3] }
  | _ => none }
def VecReckonsWrongFalsely : Prop := vecReckonsRow.holds Tryz.pinned (OpenSpec.ofChange vecReckonsWrong)

/-- 'girdlelaw07.VecScales': WHATEVER THE INPUT: true; the input reads as it did. -/
def vecScalesSpec : ChangeSpec := { name := "vecScales", fn := fun _ => fun
  | [d1, d2, d3] => { results := [.lit (.bool true)], args := [d1, d2, d3] }
  | _ => none }
def vecScalesRow : OpenClaim := { program := "ytojfepabmbnmnaagreatdoor", sum := "5b7936240baecda5980635fe4840059ff816dbbf5cafb9bd9dc100a8a787c37c", func := "girdle/girdlelaw07.VecScales", spec := "vecScales", inPlace := ["internal/bytealg.IndexByteString", "internal/bytealg.IndexString"], unfollowed := true, recurses := true, named := ["math/bits.deBruijn32tab", "unicode/utf8.first", "unicode/utf8.acceptRanges", "internal/bytealg.MaxLen"], apart := false, laid := [("math/bits.deBruijn32tab", laid_math_bits_deBruijn32tab), ("unicode/utf8.acceptRanges", laid_unicode_utf8_acceptRanges), ("unicode/utf8.first", laid_unicode_utf8_first)] }
def VecScalesSaid : Prop := vecScalesRow.holds Tryz.pinned (OpenSpec.ofChange vecScalesSpec)

/-- ITS FALSE NEIGHBOUR: 'it returns false'. Refute it at one input. -/
def vecScalesWrong : ChangeSpec := { name := "vecScales", fn := fun _ => fun
  | [d1, d2, d3] => { results := [.lit (.bool false)], args := [d1, d2, d3] }
  | _ => none }
def VecScalesWrongFalsely : Prop := vecScalesRow.holds Tryz.pinned (OpenSpec.ofChange vecScalesWrong)

/-- 'girdlelaw07.VecShapes': WHATEVER THE INPUT: true; the input reads as it did. -/
def vecShapesSpec : ChangeSpec := { name := "vecShapes", fn := fun _ => fun
  | [d1, d2, d3] => { results := [.lit (.bool true)], args := [d1, d2, d3] }
  | _ => none }
def vecShapesRow : OpenClaim := { program := "ytojfepabmbnmnaagreatdoor", sum := "5b7936240baecda5980635fe4840059ff816dbbf5cafb9bd9dc100a8a787c37c", func := "girdle/girdlelaw07.VecShapes", spec := "vecShapes", inPlace := ["internal/bytealg.IndexByteString", "internal/bytealg.IndexString"], unfollowed := true, recurses := true, named := ["math/bits.deBruijn32tab", "unicode/utf8.first", "unicode/utf8.acceptRanges", "internal/bytealg.MaxLen"], apart := false, laid := [("math/bits.deBruijn32tab", laid_math_bits_deBruijn32tab), ("unicode/utf8.acceptRanges", laid_unicode_utf8_acceptRanges), ("unicode/utf8.first", laid_unicode_utf8_first)] }
def VecShapesSaid : Prop := vecShapesRow.holds Tryz.pinned (OpenSpec.ofChange vecShapesSpec)

/-- ITS FALSE NEIGHBOUR: 'it returns false'. Refute it at one input. -/
def vecShapesWrong : ChangeSpec := { name := "vecShapes", fn := fun _ => fun
  | [d1, d2, d3] => { results := [.lit (.bool false)], args := [d1, d2, d3] }
  | _ => none }
def VecShapesWrongFalsely : Prop := vecShapesRow.holds Tryz.pinned (OpenSpec.ofChange vecShapesWrong)

/-- 'girdlelaw07.VecUnits': WHATEVER THE INPUT: true; the input reads as it did. -/
def vecUnitsSpec : ChangeSpec := { name := "vecUnits", fn := fun _ => fun
  | [d] => { results := [.lit (.bool true)], args := [d] }
  | _ => none }
def vecUnitsRow : OpenClaim := { program := "ytojfepabmbnmnaagreatdoor", sum := "5b7936240baecda5980635fe4840059ff816dbbf5cafb9bd9dc100a8a787c37c", func := "girdle/girdlelaw07.VecUnits", spec := "vecUnits", inPlace := ["internal/bytealg.IndexByteString", "internal/bytealg.IndexString"], unfollowed := true, recurses := true, named := ["math/bits.deBruijn32tab", "unicode/utf8.first", "unicode/utf8.acceptRanges", "internal/bytealg.MaxLen"], apart := false, laid := [("math/bits.deBruijn32tab", laid_math_bits_deBruijn32tab), ("unicode/utf8.acceptRanges", laid_unicode_utf8_acceptRanges), ("unicode/utf8.first", laid_unicode_utf8_first)] }
def VecUnitsSaid : Prop := vecUnitsRow.holds Tryz.pinned (OpenSpec.ofChange vecUnitsSpec)

/-- ITS FALSE NEIGHBOUR: 'it returns false'. Refute it at one input. -/
def vecUnitsWrong : ChangeSpec := { name := "vecUnits", fn := fun _ => fun
  | [d] => { results := [.lit (.bool false)], args := [d] }
  | _ => none }
def VecUnitsWrongFalsely : Prop := vecUnitsRow.holds Tryz.pinned (OpenSpec.ofChange vecUnitsWrong)

/-- 'girdlelaw07.VecHolds': WHATEVER THE INPUT: true; the input reads as it did. -/
def vecHoldsSpec : ChangeSpec := { name := "vecHolds", fn := fun _ => fun
  | [d1, d2, d3] => { results := [.lit (.bool true)], args := [d1, d2, d3] }
  | _ => none }
def vecHoldsRow : OpenClaim := { program := "ytojfepabmbnmnaagreatdoor", sum := "5b7936240baecda5980635fe4840059ff816dbbf5cafb9bd9dc100a8a787c37c", func := "girdle/girdlelaw07.VecHolds", spec := "vecHolds", inPlace := ["internal/bytealg.IndexByteString", "internal/bytealg.IndexString"], unfollowed := true, recurses := true, named := ["math/bits.deBruijn32tab", "unicode/utf8.first", "unicode/utf8.acceptRanges", "internal/bytealg.MaxLen"], apart := false, laid := [("math/bits.deBruijn32tab", laid_math_bits_deBruijn32tab), ("unicode/utf8.acceptRanges", laid_unicode_utf8_acceptRanges), ("unicode/utf8.first", laid_unicode_utf8_first)] }
def VecHoldsSaid : Prop := vecHoldsRow.holds Tryz.pinned (OpenSpec.ofChange vecHoldsSpec)

/-- ITS FALSE NEIGHBOUR: 'it returns false'. Refute it at one input. -/
def vecHoldsWrong : ChangeSpec := { name := "vecHolds", fn := fun _ => fun
  | [d1, d2, d3] => { results := [.lit (.bool false)], args := [d1, d2, d3] }
  | _ => none }
def VecHoldsWrongFalsely : Prop := vecHoldsRow.holds Tryz.pinned (OpenSpec.ofChange vecHoldsWrong)

/-- 'girdlelaw08.MatReckons': WHATEVER THE INPUT: true; the input reads as it did. -/
def matReckonsSpec : ChangeSpec := { name := "matReckons", fn := fun _ => fun
  | [d1, d2] => { results := [.lit (.bool true)], args := [d1, d2] }
  | _ => none }
def matReckonsRow : OpenClaim := { program := "ytojfepabmbnmnaagreatdoor", sum := "5b7936240baecda5980635fe4840059ff816dbbf5cafb9bd9dc100a8a787c37c", func := "girdle/girdlelaw08.MatReckons", spec := "matReckons", inPlace := ["internal/bytealg.IndexByteString", "internal/bytealg.IndexString"], unfollowed := true, recurses := true, named := ["math/bits.deBruijn32tab", "unicode/utf8.first", "unicode/utf8.acceptRanges", "internal/bytealg.MaxLen"], apart := false, laid := [("math/bits.deBruijn32tab", laid_math_bits_deBruijn32tab), ("unicode/utf8.acceptRanges", laid_unicode_utf8_acceptRanges), ("unicode/utf8.first", laid_unicode_utf8_first)] }
def MatReckonsSaid : Prop := matReckonsRow.holds Tryz.pinned (OpenSpec.ofChange matReckonsSpec)

/-- ITS FALSE NEIGHBOUR: 'it returns false'. Refute it at one input. -/
def matReckonsWrong : ChangeSpec := { name := "matReckons", fn := fun _ => fun
  | [d1, d2] => { results := [.lit (.bool false)], args := [d1, d2] }
  | _ => none }
def MatReckonsWrongFalsely : Prop := matReckonsRow.holds Tryz.pinned (OpenSpec.ofChange matReckonsWrong)

/-- 'girdlelaw08.MatHolds': WHATEVER THE INPUT: true; the input reads as it did. -/
def matHoldsSpec : ChangeSpec := { name := "matHolds", fn := fun _ => fun
  | [d1, d2, d3] => { results := [.lit (.bool true)], args := [d1, d2, d3] }
  | _ => none }
def matHoldsRow : OpenClaim := { program := "ytojfepabmbnmnaagreatdoor", sum := "5b7936240baecda5980635fe4840059ff816dbbf5cafb9bd9dc100a8a787c37c", func := "girdle/girdlelaw08.MatHolds", spec := "matHolds", inPlace := ["internal/bytealg.IndexByteString", "internal/bytealg.IndexString"], unfollowed := true, recurses := true, named := ["math/bits.deBruijn32tab", "unicode/utf8.first", "unicode/utf8.acceptRanges", "internal/bytealg.MaxLen"], apart := false, laid := [("math/bits.deBruijn32tab", laid_math_bits_deBruijn32tab), ("unicode/utf8.acceptRanges", laid_unicode_utf8_acceptRanges), ("unicode/utf8.first", laid_unicode_utf8_first)] }
def MatHoldsSaid : Prop := matHoldsRow.holds Tryz.pinned (OpenSpec.ofChange matHoldsSpec)

/-- ITS FALSE NEIGHBOUR: 'it returns false'. Refute it at one input. -/
def matHoldsWrong : ChangeSpec := { name := "matHolds", fn := fun _ => fun
  | [d1, d2, d3] => { results := [.lit (.bool false)], args := [d1, d2, d3] }
  | _ => none }
def MatHoldsWrongFalsely : Prop := matHoldsRow.holds Tryz.pinned (OpenSpec.ofChange matHoldsWrong)

/-- 'girdlelaw08.MatNorms': WHATEVER THE INPUT: true; the input reads as it did. -/
def matNormsSpec : ChangeSpec := { name := "matNorms", fn := fun _ => fun
  | [d1, d2, d3] => { results := [.lit (.bool true)], args := [d1, d2, d3] }
  | _ => none }
def matNormsRow : OpenClaim := { program := "ytojfepabmbnmnaagreatdoor", sum := "5b7936240baecda5980635fe4840059ff816dbbf5cafb9bd9dc100a8a787c37c", func := "girdle/girdlelaw08.MatNorms", spec := "matNorms", inPlace := ["internal/bytealg.IndexByteString", "internal/bytealg.IndexString"], unfollowed := true, recurses := true, named := ["math/bits.deBruijn32tab", "unicode/utf8.first", "unicode/utf8.acceptRanges", "internal/bytealg.MaxLen"], apart := false, laid := [("math/bits.deBruijn32tab", laid_math_bits_deBruijn32tab), ("unicode/utf8.acceptRanges", laid_unicode_utf8_acceptRanges), ("unicode/utf8.first", laid_unicode_utf8_first)] }
def MatNormsSaid : Prop := matNormsRow.holds Tryz.pinned (OpenSpec.ofChange matNormsSpec)

/-- ITS FALSE NEIGHBOUR: 'it returns false'. Refute it at one input. -/
def matNormsWrong : ChangeSpec := { name := "matNorms", fn := fun _ => fun
  | [d1, d2, d3] => { results := [.lit (.bool false)], args := [d1, d2, d3] }
  | _ => none }
def MatNormsWrongFalsely : Prop := matNormsRow.holds Tryz.pinned (OpenSpec.ofChange matNormsWrong)

/-- 'girdlelaw08.MatShapes': WHATEVER THE INPUT: true; the input reads as it did. -/
def matShapesSpec : ChangeSpec := { name := "matShapes", fn := fun _ => fun
  | [d1, d2, d3] => { results := [.lit (.bool true)], args := [d1, d2, d3] }
  | _ => none }
def matShapesRow : OpenClaim := { program := "ytojfepabmbnmnaagreatdoor", sum := "5b7936240baecda5980635fe4840059ff816dbbf5cafb9bd9dc100a8a787c37c", func := "girdle/girdlelaw08.MatShapes", spec := "matShapes", inPlace := ["internal/bytealg.IndexByteString", "internal/bytealg.IndexString"], unfollowed := true, recurses := true, named := ["math/bits.deBruijn32tab", "unicode/utf8.first", "unicode/utf8.acceptRanges", "internal/bytealg.MaxLen"], apart := false, laid := [("math/bits.deBruijn32tab", laid_math_bits_deBruijn32tab), ("unicode/utf8.acceptRanges", laid_unicode_utf8_acceptRanges), ("unicode/utf8.first", laid_unicode_utf8_first)] }
def MatShapesSaid : Prop := matShapesRow.holds Tryz.pinned (OpenSpec.ofChange matShapesSpec)

/-- ITS FALSE NEIGHBOUR: 'it returns false'. Refute it at one input. -/
def matShapesWrong : ChangeSpec := { name := "matShapes", fn := fun _ => fun
  | [d1, d2, d3] => { results := [.lit (.bool false)], args := [d1, d2, d3] }
  | _ => none }
def MatShapesWrongFalsely : Prop := matShapesRow.holds Tryz.pinned (OpenSpec.ofChange matShapesWrong)

/-- 'girdlelaw08.MatGroups': WHATEVER THE INPUT: true; the input reads as it did. -/
def matGroupsSpec : ChangeSpec := { name := "matGroups", fn := fun _ => fun
  | [d1, d2] => { results := [.lit (.bool true)], args := [d1, d2] }
  | _ => none }
def matGroupsRow : OpenClaim := { program := "ytojfepabmbnmnaagreatdoor", sum := "5b7936240baecda5980635fe4840059ff816dbbf5cafb9bd9dc100a8a787c37c", func := "girdle/girdlelaw08.MatGroups", spec := "matGroups", inPlace := ["internal/bytealg.IndexByteString", "internal/bytealg.IndexString"], unfollowed := true, recurses := true, named := ["math/bits.deBruijn32tab", "unicode/utf8.first", "unicode/utf8.acceptRanges", "internal/bytealg.MaxLen"], apart := false, laid := [("math/bits.deBruijn32tab", laid_math_bits_deBruijn32tab), ("unicode/utf8.acceptRanges", laid_unicode_utf8_acceptRanges), ("unicode/utf8.first", laid_unicode_utf8_first)] }
def MatGroupsSaid : Prop := matGroupsRow.holds Tryz.pinned (OpenSpec.ofChange matGroupsSpec)

/-- ITS FALSE NEIGHBOUR: 'it returns false'. Refute it at one input. -/
def matGroupsWrong : ChangeSpec := { name := "matGroups", fn := fun _ => fun
  | [d1, d2] => { results := [.lit (.bool false)], args := [d1, d2] }
  | _ => none }
def MatGroupsWrongFalsely : Prop := matGroupsRow.holds Tryz.pinned (OpenSpec.ofChange matGroupsWrong)

/- THE SECOND FORM. 'bulk': how many values and letters a reading holds, each counted each time it is reached (what is shared counts as often as it is met; a slice's spare places count too). A statement '..UptoSaid' is the law's where the arguments, and the package variables that the reading takes, are together of bulk at most 1048576: NARROWER than '..Said'. Prove '..Said' where nothing that the law and all that it calls make is longer than what came in: it says more and counts as full. Else prove '..UptoSaid'. A law counts once. -/
mutual
def uptoBulk {H : Type} : DataW H → Nat
  | .lit (.string bytes) => bytes.length + 1
  | .lit _ => 1
  | .nil => 1
  | .ptr d => uptoBulk d + 1
  | .slice elems spare => uptoBulkAll elems + uptoBulkAll spare + 1
  | .agg parts => uptoBulkAll parts + 1
  | .iface _ d => uptoBulk d + 1
  | .map entries => uptoBulkEntries entries + 1
  | .held _ => 1
def uptoBulkAll {H : Type} : List (DataW H) → Nat
  | [] => 0
  | d :: r => uptoBulk d + uptoBulkAll r
def uptoBulkEntries {H : Type} : List (Lit × DataW H) → Nat
  | [] => 0
  | x :: r => uptoBulkEntry x + uptoBulkEntries r
def uptoBulkEntry {H : Type} : Lit × DataW H → Nat
  | (.string bytes, d) => bytes.length + uptoBulk d + 1
  | (_, d) => uptoBulk d + 1
 end
def uptoSmall : (H : Type) → List (DataW H) → Bool := fun _ ds => decide (uptoBulkAll ds ≤ 1048576)
def OpenSpec.upto (s : _root_.Go.ChangeSpec) : _root_.Go.OpenSpec := { _root_.Go.OpenSpec.ofChange s with cond := some uptoSmall }

/-- 'girdlelaw07.VecReckons', WHERE WHAT IT READS IS OF BULK AT MOST 1048576: true; the input reads as it did. -/
def vecReckonsUptoRow : OpenClaim := { program := "ytojfepabmbnmnaagreatdoor", sum := "5b7936240baecda5980635fe4840059ff816dbbf5cafb9bd9dc100a8a787c37c", func := "girdle/girdlelaw07.VecReckons", spec := "vecReckons", inPlace := ["internal/bytealg.IndexByteString", "internal/bytealg.IndexString"], unfollowed := true, recurses := true, named := ["math/bits.deBruijn32tab", "unicode/utf8.first", "unicode/utf8.acceptRanges", "internal/bytealg.MaxLen"], apart := false, laid := [("math/bits.deBruijn32tab", laid_math_bits_deBruijn32tab), ("unicode/utf8.acceptRanges", laid_unicode_utf8_acceptRanges), ("unicode/utf8.first", laid_unicode_utf8_first)], narrowed := true }
def VecReckonsUptoSaid : Prop := vecReckonsUptoRow.holds Tryz.pinned (OpenSpec.upto vecReckonsSpec)

/-- 'girdlelaw07.VecScales', WHERE WHAT IT READS IS OF BULK AT MOST 1048576: true; the input reads as it did. -/
def vecScalesUptoRow : OpenClaim := { program := "ytojfepabmbnmnaagreatdoor", sum := "5b7936240baecda5980635fe4840059ff816dbbf5cafb9bd9dc100a8a787c37c", func := "girdle/girdlelaw07.VecScales", spec := "vecScales", inPlace := ["internal/bytealg.IndexByteString", "internal/bytealg.IndexString"], unfollowed := true, recurses := true, named := ["math/bits.deBruijn32tab", "unicode/utf8.first", "unicode/utf8.acceptRanges", "internal/bytealg.MaxLen"], apart := false, laid := [("math/bits.deBruijn32tab", laid_math_bits_deBruijn32tab), ("unicode/utf8.acceptRanges", laid_unicode_utf8_acceptRanges), ("unicode/utf8.first", laid_unicode_utf8_first)], narrowed := true }
def VecScalesUptoSaid : Prop := vecScalesUptoRow.holds Tryz.pinned (OpenSpec.upto vecScalesSpec)

/-- 'girdlelaw07.VecShapes', WHERE WHAT IT READS IS OF BULK AT MOST 1048576: true; the input reads as it did. -/
def vecShapesUptoRow : OpenClaim := { program := "ytojfepabmbnmnaagreatdoor", sum := "5b7936240baecda5980635fe4840059ff816dbbf5cafb9bd9dc100a8a787c37c", func := "girdle/girdlelaw07.VecShapes", spec := "vecShapes", inPlace := ["internal/bytealg.IndexByteString", "internal/bytealg.IndexString"], unfollowed := true, recurses := true, named := ["math/bits.deBruijn32tab", "unicode/utf8.first", "unicode/utf8.acceptRanges", "internal/bytealg.MaxLen"], apart := false, laid := [("math/bits.deBruijn32tab", laid_math_bits_deBruijn32tab), ("unicode/utf8.acceptRanges", laid_unicode_utf8_acceptRanges), ("unicode/utf8.first", laid_unicode_utf8_first)], narrowed := true }
def VecShapesUptoSaid : Prop := vecShapesUptoRow.holds Tryz.pinned (OpenSpec.upto vecShapesSpec)

/-- 'girdlelaw07.VecUnits', WHERE WHAT IT READS IS OF BULK AT MOST 1048576: true; the input reads as it did. -/
def vecUnitsUptoRow : OpenClaim := { program := "ytojfepabmbnmnaagreatdoor", sum := "5b7936240baecda5980635fe4840059ff816dbbf5cafb9bd9dc100a8a787c37c", func := "girdle/girdlelaw07.VecUnits", spec := "vecUnits", inPlace := ["internal/bytealg.IndexByteString", "internal/bytealg.IndexString"], unfollowed := true, recurses := true, named := ["math/bits.deBruijn32tab", "unicode/utf8.first", "unicode/utf8.acceptRanges", "internal/bytealg.MaxLen"], apart := false, laid := [("math/bits.deBruijn32tab", laid_math_bits_deBruijn32tab), ("unicode/utf8.acceptRanges", laid_unicode_utf8_acceptRanges), ("unicode/utf8.first", laid_unicode_utf8_first)], narrowed := true }
def VecUnitsUptoSaid : Prop := vecUnitsUptoRow.holds Tryz.pinned (OpenSpec.upto vecUnitsSpec)

/-- 'girdlelaw07.VecHolds', WHERE WHAT IT READS IS OF BULK AT MOST 1048576: true; the input reads as it did. -/
def vecHoldsUptoRow : OpenClaim := { program := "ytojfepabmbnmnaagreatdoor", sum := "5b7936240baecda5980635fe4840059ff816dbbf5cafb9bd9dc100a8a787c37c", func := "girdle/girdlelaw07.VecHolds", spec := "vecHolds", inPlace := ["internal/bytealg.IndexByteString", "internal/bytealg.IndexString"], unfollowed := true, recurses := true, named := ["math/bits.deBruijn32tab", "unicode/utf8.first", "unicode/utf8.acceptRanges", "internal/bytealg.MaxLen"], apart := false, laid := [("math/bits.deBruijn32tab", laid_math_bits_deBruijn32tab), ("unicode/utf8.acceptRanges", laid_unicode_utf8_acceptRanges), ("unicode/utf8.first", laid_unicode_utf8_first)], narrowed := true }
def VecHoldsUptoSaid : Prop := vecHoldsUptoRow.holds Tryz.pinned (OpenSpec.upto vecHoldsSpec)

/-- 'girdlelaw08.MatReckons', WHERE WHAT IT READS IS OF BULK AT MOST 1048576: true; the input reads as it did. -/
def matReckonsUptoRow : OpenClaim := { program := "ytojfepabmbnmnaagreatdoor", sum := "5b7936240baecda5980635fe4840059ff816dbbf5cafb9bd9dc100a8a787c37c", func := "girdle/girdlelaw08.MatReckons", spec := "matReckons", inPlace := ["internal/bytealg.IndexByteString", "internal/bytealg.IndexString"], unfollowed := true, recurses := true, named := ["math/bits.deBruijn32tab", "unicode/utf8.first", "unicode/utf8.acceptRanges", "internal/bytealg.MaxLen"], apart := false, laid := [("math/bits.deBruijn32tab", laid_math_bits_deBruijn32tab), ("unicode/utf8.acceptRanges", laid_unicode_utf8_acceptRanges), ("unicode/utf8.first", laid_unicode_utf8_first)], narrowed := true }
def MatReckonsUptoSaid : Prop := matReckonsUptoRow.holds Tryz.pinned (OpenSpec.upto matReckonsSpec)

/-- 'girdlelaw08.MatHolds', WHERE WHAT IT READS IS OF BULK AT MOST 1048576: true; the input reads as it did. -/
def matHoldsUptoRow : OpenClaim := { program := "ytojfepabmbnmnaagreatdoor", sum := "5b7936240baecda5980635fe4840059ff816dbbf5cafb9bd9dc100a8a787c37c", func := "girdle/girdlelaw08.MatHolds", spec := "matHolds", inPlace := ["internal/bytealg.IndexByteString", "internal/bytealg.IndexString"], unfollowed := true, recurses := true, named := ["math/bits.deBruijn32tab", "unicode/utf8.first", "unicode/utf8.acceptRanges", "internal/bytealg.MaxLen"], apart := false, laid := [("math/bits.deBruijn32tab", laid_math_bits_deBruijn32tab), ("unicode/utf8.acceptRanges", laid_unicode_utf8_acceptRanges), ("unicode/utf8.first", laid_unicode_utf8_first)], narrowed := true }
def MatHoldsUptoSaid : Prop := matHoldsUptoRow.holds Tryz.pinned (OpenSpec.upto matHoldsSpec)

/-- 'girdlelaw08.MatNorms', WHERE WHAT IT READS IS OF BULK AT MOST 1048576: true; the input reads as it did. -/
def matNormsUptoRow : OpenClaim := { program := "ytojfepabmbnmnaagreatdoor", sum := "5b7936240baecda5980635fe4840059ff816dbbf5cafb9bd9dc100a8a787c37c", func := "girdle/girdlelaw08.MatNorms", spec := "matNorms", inPlace := ["internal/bytealg.IndexByteString", "internal/bytealg.IndexString"], unfollowed := true, recurses := true, named := ["math/bits.deBruijn32tab", "unicode/utf8.first", "unicode/utf8.acceptRanges", "internal/bytealg.MaxLen"], apart := false, laid := [("math/bits.deBruijn32tab", laid_math_bits_deBruijn32tab), ("unicode/utf8.acceptRanges", laid_unicode_utf8_acceptRanges), ("unicode/utf8.first", laid_unicode_utf8_first)], narrowed := true }
def MatNormsUptoSaid : Prop := matNormsUptoRow.holds Tryz.pinned (OpenSpec.upto matNormsSpec)

/-- 'girdlelaw08.MatShapes', WHERE WHAT IT READS IS OF BULK AT MOST 1048576: true; the input reads as it did. -/
def matShapesUptoRow : OpenClaim := { program := "ytojfepabmbnmnaagreatdoor", sum := "5b7936240baecda5980635fe4840059ff816dbbf5cafb9bd9dc100a8a787c37c", func := "girdle/girdlelaw08.MatShapes", spec := "matShapes", inPlace := ["internal/bytealg.IndexByteString", "internal/bytealg.IndexString"], unfollowed := true, recurses := true, named := ["math/bits.deBruijn32tab", "unicode/utf8.first", "unicode/utf8.acceptRanges", "internal/bytealg.MaxLen"], apart := false, laid := [("math/bits.deBruijn32tab", laid_math_bits_deBruijn32tab), ("unicode/utf8.acceptRanges", laid_unicode_utf8_acceptRanges), ("unicode/utf8.first", laid_unicode_utf8_first)], narrowed := true }
def MatShapesUptoSaid : Prop := matShapesUptoRow.holds Tryz.pinned (OpenSpec.upto matShapesSpec)

/-- 'girdlelaw08.MatGroups', WHERE WHAT IT READS IS OF BULK AT MOST 1048576: true; the input reads as it did. -/
def matGroupsUptoRow : OpenClaim := { program := "ytojfepabmbnmnaagreatdoor", sum := "5b7936240baecda5980635fe4840059ff816dbbf5cafb9bd9dc100a8a787c37c", func := "girdle/girdlelaw08.MatGroups", spec := "matGroups", inPlace := ["internal/bytealg.IndexByteString", "internal/bytealg.IndexString"], unfollowed := true, recurses := true, named := ["math/bits.deBruijn32tab", "unicode/utf8.first", "unicode/utf8.acceptRanges", "internal/bytealg.MaxLen"], apart := false, laid := [("math/bits.deBruijn32tab", laid_math_bits_deBruijn32tab), ("unicode/utf8.acceptRanges", laid_unicode_utf8_acceptRanges), ("unicode/utf8.first", laid_unicode_utf8_first)], narrowed := true }
def MatGroupsUptoSaid : Prop := matGroupsUptoRow.holds Tryz.pinned (OpenSpec.upto matGroupsSpec)

end Rows
end Go.Proofs.YtojfepabmbnmnaaGreatDoor
