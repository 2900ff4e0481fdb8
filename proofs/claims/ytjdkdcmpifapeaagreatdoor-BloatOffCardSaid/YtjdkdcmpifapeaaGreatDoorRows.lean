/-
  NARROWER THAN 'FOR EVERY INPUT', by the rows' own cells (each row's printed sentence says how): SeriesExact: laid · SeriesHolds: laid · SeriesAdds: laid · BloatOff: laid · ReachTruth: laid · FlowRefuses: laid · FlowBegins: laid · FlowTruth: laid · HuntCorners: laid · DecideKeeps: laid · DecideFar: laid.
  DERIVED. THE GIVEN ROWS OF THIS SEAT. 11 by the template 'for every input the law returns true; each argument reads behind the call as it read before'; 0 by the template 'total and deterministic' (their statements: YtjdkdcmpifapeaaGreatDoorTotals.lean).
  GIVEN WITH THE SEED: the statements are not yours to turn. If you find one false, say at which input.
  Laid BY PROGRAM, IN A SANDBOX (cutbox-rows.mjs): the forced cells as the released guide's own fill.sh prints them over the translation f37287fc464d3635… (all of the seat's roots in one cut). By AI agents, Wed Nov 11 2026. No macro, syntax, notation, axiom, sorry.
-/
import Derived.Test.YtjdkdcmpifapeaaGreatDoorChecked
import GoSem.PinnedTables
import GoSem.Claim
import GoSem.ClaimJoined
import GoSem.ClaimMapViews
import Derived.JoinedTies
import Derived.KernelRfl
namespace Go.Proofs.YtjdkdcmpifapeaaGreatDoor
/- THE CELL 'sum', in the pinned program and in every row, IS THE sha256 OF THE DUMP (.gsa) THAT YtjdkdcmpifapeaaGreatDoorProg.lean LOADS. Nothing in Lean hashes anything: it is a label: what it is worth is what the hold of that sum in a sandbox is worth. -/
noncomputable def Tryz.pinned : Pinned := { name := "ytjdkdcmpifapeaagreatdoor", sum := "f37287fc464d3635386cd303a521fc65e1b1da6062909e6b6b39c2fc15aa649b", checked := Tryz.checked }
namespace Rows
def none {H : Type} : Left H := { results := [], args := [] }

/- WHAT THE LISTED PACKAGE-LEVEL VARIABLES READ AS WHEN THE CALL BEGINS. Each datum BY PROGRAM (the guide's laid-datum.mjs) off the statement by which the dump's own 'gosem.cut.vars' lays the variable. In a bare row this is a premise. The card (YtjdkdcmpifapeaaGreatDoorCards.lean) ties it to the program's text. -/
def laid_math_bits_deBruijn32tab {H : Type} : DataW H := .agg [.lit (.int .u8 0), .lit (.int .u8 1), .lit (.int .u8 28), .lit (.int .u8 2), .lit (.int .u8 29), .lit (.int .u8 14), .lit (.int .u8 24), .lit (.int .u8 3), .lit (.int .u8 30), .lit (.int .u8 22), .lit (.int .u8 20), .lit (.int .u8 15), .lit (.int .u8 25), .lit (.int .u8 17), .lit (.int .u8 4), .lit (.int .u8 8), .lit (.int .u8 31), .lit (.int .u8 27), .lit (.int .u8 13), .lit (.int .u8 23), .lit (.int .u8 21), .lit (.int .u8 19), .lit (.int .u8 16), .lit (.int .u8 7), .lit (.int .u8 26), .lit (.int .u8 12), .lit (.int .u8 18), .lit (.int .u8 6), .lit (.int .u8 11), .lit (.int .u8 5), .lit (.int .u8 10), .lit (.int .u8 9)]
def laid_unicode_utf8_acceptRanges {H : Type} : DataW H := .agg [.agg [.lit (.int .u8 128), .lit (.int .u8 191)], .agg [.lit (.int .u8 160), .lit (.int .u8 191)], .agg [.lit (.int .u8 128), .lit (.int .u8 159)], .agg [.lit (.int .u8 144), .lit (.int .u8 191)], .agg [.lit (.int .u8 128), .lit (.int .u8 143)], .agg [.lit (.int .u8 0), .lit (.int .u8 0)], .agg [.lit (.int .u8 0), .lit (.int .u8 0)], .agg [.lit (.int .u8 0), .lit (.int .u8 0)], .agg [.lit (.int .u8 0), .lit (.int .u8 0)], .agg [.lit (.int .u8 0), .lit (.int .u8 0)], .agg [.lit (.int .u8 0), .lit (.int .u8 0)], .agg [.lit (.int .u8 0), .lit (.int .u8 0)], .agg [.lit (.int .u8 0), .lit (.int .u8 0)], .agg [.lit (.int .u8 0), .lit (.int .u8 0)], .agg [.lit (.int .u8 0), .lit (.int .u8 0)], .agg [.lit (.int .u8 0), .lit (.int .u8 0)]]
/-- One of Go's own tables, pinned by name: the form's constant. -/
def laid_unicode_utf8_first : DataW Unit := Go.Pinned.utf8First

/-- 'girdlelaw13.SeriesExact': WHATEVER THE INPUT: true; the input reads as it did. -/
def seriesExactSpec : ChangeSpec := { name := "seriesExact", fn := fun _ => fun
  | [d1, d2, d3] => { results := [.lit (.bool true)], args := [d1, d2, d3] }
  | _ => none }
def seriesExactRow : OpenClaim := { program := "ytjdkdcmpifapeaagreatdoor", sum := "f37287fc464d3635386cd303a521fc65e1b1da6062909e6b6b39c2fc15aa649b", func := "girdle/girdlelaw13.SeriesExact", spec := "seriesExact", unfollowed := true, recurses := true, named := ["math/bits.deBruijn32tab"], apart := false, laid := [("math/bits.deBruijn32tab", laid_math_bits_deBruijn32tab)] }
def SeriesExactSaid : Prop := seriesExactRow.holds Tryz.pinned (OpenSpec.ofChange seriesExactSpec)

/-- ITS FALSE NEIGHBOUR: 'it returns false'. Refute it at one input. -/
def seriesExactWrong : ChangeSpec := { name := "seriesExact", fn := fun _ => fun
  | [d1, d2, d3] => { results := [.lit (.bool false)], args := [d1, d2, d3] }
  | _ => none }
def SeriesExactWrongFalsely : Prop := seriesExactRow.holds Tryz.pinned (OpenSpec.ofChange seriesExactWrong)

/-- 'girdlelaw13.SeriesHolds': WHATEVER THE INPUT: true; the input reads as it did. -/
def seriesHoldsSpec : ChangeSpec := { name := "seriesHolds", fn := fun _ => fun
  | [d1, d2, d3] => { results := [.lit (.bool true)], args := [d1, d2, d3] }
  | _ => none }
def seriesHoldsRow : OpenClaim := { program := "ytjdkdcmpifapeaagreatdoor", sum := "f37287fc464d3635386cd303a521fc65e1b1da6062909e6b6b39c2fc15aa649b", func := "girdle/girdlelaw13.SeriesHolds", spec := "seriesHolds", unfollowed := true, recurses := true, named := ["math/bits.deBruijn32tab"], apart := false, laid := [("math/bits.deBruijn32tab", laid_math_bits_deBruijn32tab)] }
def SeriesHoldsSaid : Prop := seriesHoldsRow.holds Tryz.pinned (OpenSpec.ofChange seriesHoldsSpec)

/-- ITS FALSE NEIGHBOUR: 'it returns false'. Refute it at one input. -/
def seriesHoldsWrong : ChangeSpec := { name := "seriesHolds", fn := fun _ => fun
  | [d1, d2, d3] => { results := [.lit (.bool false)], args := [d1, d2, d3] }
  | _ => none }
def SeriesHoldsWrongFalsely : Prop := seriesHoldsRow.holds Tryz.pinned (OpenSpec.ofChange seriesHoldsWrong)

/-- 'girdlelaw13.SeriesAdds': WHATEVER THE INPUT: true; the input reads as it did. -/
def seriesAddsSpec : ChangeSpec := { name := "seriesAdds", fn := fun _ => fun
  | [d1, d2, d3] => { results := [.lit (.bool true)], args := [d1, d2, d3] }
  | _ => none }
def seriesAddsRow : OpenClaim := { program := "ytjdkdcmpifapeaagreatdoor", sum := "f37287fc464d3635386cd303a521fc65e1b1da6062909e6b6b39c2fc15aa649b", func := "girdle/girdlelaw13.SeriesAdds", spec := "seriesAdds", unfollowed := true, recurses := true, named := ["math/bits.deBruijn32tab"], apart := false, laid := [("math/bits.deBruijn32tab", laid_math_bits_deBruijn32tab)] }
def SeriesAddsSaid : Prop := seriesAddsRow.holds Tryz.pinned (OpenSpec.ofChange seriesAddsSpec)

/-- ITS FALSE NEIGHBOUR: 'it returns false'. Refute it at one input. -/
def seriesAddsWrong : ChangeSpec := { name := "seriesAdds", fn := fun _ => fun
  | [d1, d2, d3] => { results := [.lit (.bool false)], args := [d1, d2, d3] }
  | _ => none }
def SeriesAddsWrongFalsely : Prop := seriesAddsRow.holds Tryz.pinned (OpenSpec.ofChange seriesAddsWrong)

/-- 'girdlelaw19.BloatOff': WHATEVER THE INPUT: true; the input reads as it did. -/
def bloatOffSpec : ChangeSpec := { name := "bloatOff", fn := fun _ => fun
  | [d] => { results := [.lit (.bool true)], args := [d] }
  | _ => none }
def bloatOffRow : OpenClaim := { program := "ytjdkdcmpifapeaagreatdoor", sum := "f37287fc464d3635386cd303a521fc65e1b1da6062909e6b6b39c2fc15aa649b", func := "girdle/girdlelaw19.BloatOff", spec := "bloatOff", unfollowed := true, recurses := true, named := ["math/bits.deBruijn32tab"], apart := false, laid := [("math/bits.deBruijn32tab", laid_math_bits_deBruijn32tab)] }
def BloatOffSaid : Prop := bloatOffRow.holds Tryz.pinned (OpenSpec.ofChange bloatOffSpec)

/-- ITS FALSE NEIGHBOUR: 'it returns false'. Refute it at one input. -/
def bloatOffWrong : ChangeSpec := { name := "bloatOff", fn := fun _ => fun
  | [d] => { results := [.lit (.bool false)], args := [d] }
  | _ => none }
def BloatOffWrongFalsely : Prop := bloatOffRow.holds Tryz.pinned (OpenSpec.ofChange bloatOffWrong)

/-- 'girdlelaw21.ReachTruth': WHATEVER THE INPUT: true; the input reads as it did. -/
def reachTruthSpec : ChangeSpec := { name := "reachTruth", fn := fun _ => fun
  | [d1, d2, d3] => { results := [.lit (.bool true)], args := [d1, d2, d3] }
  | _ => none }
def reachTruthRow : OpenClaim := { program := "ytjdkdcmpifapeaagreatdoor", sum := "f37287fc464d3635386cd303a521fc65e1b1da6062909e6b6b39c2fc15aa649b", func := "girdle/girdlelaw21.ReachTruth", spec := "reachTruth", unfollowed := true, recurses := true, named := ["math/bits.deBruijn32tab"], apart := false, laid := [("math/bits.deBruijn32tab", laid_math_bits_deBruijn32tab)] }
def ReachTruthSaid : Prop := reachTruthRow.holds Tryz.pinned (OpenSpec.ofChange reachTruthSpec)

/-- ITS FALSE NEIGHBOUR: 'it returns false'. Refute it at one input. -/
def reachTruthWrong : ChangeSpec := { name := "reachTruth", fn := fun _ => fun
  | [d1, d2, d3] => { results := [.lit (.bool false)], args := [d1, d2, d3] }
  | _ => none }
def ReachTruthWrongFalsely : Prop := reachTruthRow.holds Tryz.pinned (OpenSpec.ofChange reachTruthWrong)

/-- 'girdlelaw20.FlowRefuses': WHATEVER THE INPUT: true; the input reads as it did. -/
def flowRefusesSpec : ChangeSpec := { name := "flowRefuses", fn := fun _ => fun
  | [d1, d2, d3] => { results := [.lit (.bool true)], args := [d1, d2, d3] }
  | _ => none }
def flowRefusesRow : OpenClaim := { program := "ytjdkdcmpifapeaagreatdoor", sum := "f37287fc464d3635386cd303a521fc65e1b1da6062909e6b6b39c2fc15aa649b", func := "girdle/girdlelaw20.FlowRefuses", spec := "flowRefuses", unfollowed := true, recurses := true, named := ["math/bits.deBruijn32tab"], apart := false, laid := [("math/bits.deBruijn32tab", laid_math_bits_deBruijn32tab)] }
def FlowRefusesSaid : Prop := flowRefusesRow.holds Tryz.pinned (OpenSpec.ofChange flowRefusesSpec)

/-- ITS FALSE NEIGHBOUR: 'it returns false'. Refute it at one input. -/
def flowRefusesWrong : ChangeSpec := { name := "flowRefuses", fn := fun _ => fun
  | [d1, d2, d3] => { results := [.lit (.bool false)], args := [d1, d2, d3] }
  | _ => none }
def FlowRefusesWrongFalsely : Prop := flowRefusesRow.holds Tryz.pinned (OpenSpec.ofChange flowRefusesWrong)

/-- 'girdlelaw20.FlowBegins': WHATEVER THE INPUT: true; the input reads as it did. -/
def flowBeginsSpec : ChangeSpec := { name := "flowBegins", fn := fun _ => fun
  | [d1, d2] => { results := [.lit (.bool true)], args := [d1, d2] }
  | _ => none }
def flowBeginsRow : OpenClaim := { program := "ytjdkdcmpifapeaagreatdoor", sum := "f37287fc464d3635386cd303a521fc65e1b1da6062909e6b6b39c2fc15aa649b", func := "girdle/girdlelaw20.FlowBegins", spec := "flowBegins", unfollowed := true, recurses := true, named := ["math/bits.deBruijn32tab"], apart := false, laid := [("math/bits.deBruijn32tab", laid_math_bits_deBruijn32tab)] }
def FlowBeginsSaid : Prop := flowBeginsRow.holds Tryz.pinned (OpenSpec.ofChange flowBeginsSpec)

/-- ITS FALSE NEIGHBOUR: 'it returns false'. Refute it at one input. -/
def flowBeginsWrong : ChangeSpec := { name := "flowBegins", fn := fun _ => fun
  | [d1, d2] => { results := [.lit (.bool false)], args := [d1, d2] }
  | _ => none }
def FlowBeginsWrongFalsely : Prop := flowBeginsRow.holds Tryz.pinned (OpenSpec.ofChange flowBeginsWrong)

/-- 'girdlelaw20.FlowTruth': WHATEVER THE INPUT: true; the input reads as it did. -/
def flowTruthSpec : ChangeSpec := { name := "flowTruth", fn := fun _ => fun
  | [d1, d2, d3] => { results := [.lit (.bool true)], args := [d1, d2, d3] }
  | _ => none }
def flowTruthRow : OpenClaim := { program := "ytjdkdcmpifapeaagreatdoor", sum := "f37287fc464d3635386cd303a521fc65e1b1da6062909e6b6b39c2fc15aa649b", func := "girdle/girdlelaw20.FlowTruth", spec := "flowTruth", unfollowed := true, recurses := true, named := ["math/bits.deBruijn32tab"], apart := false, laid := [("math/bits.deBruijn32tab", laid_math_bits_deBruijn32tab)] }
def FlowTruthSaid : Prop := flowTruthRow.holds Tryz.pinned (OpenSpec.ofChange flowTruthSpec)

/-- ITS FALSE NEIGHBOUR: 'it returns false'. Refute it at one input. -/
def flowTruthWrong : ChangeSpec := { name := "flowTruth", fn := fun _ => fun
  | [d1, d2, d3] => { results := [.lit (.bool false)], args := [d1, d2, d3] }
  | _ => none }
def FlowTruthWrongFalsely : Prop := flowTruthRow.holds Tryz.pinned (OpenSpec.ofChange flowTruthWrong)

/-- 'girdlelaw24.HuntCorners': WHATEVER THE INPUT: true; the input reads as it did. -/
def huntCornersSpec : ChangeSpec := { name := "huntCorners", fn := fun _ => fun
  | [d1, d2, d3] => { results := [.lit (.bool true)], args := [d1, d2, d3] }
  | _ => none }
def huntCornersRow : OpenClaim := { program := "ytjdkdcmpifapeaagreatdoor", sum := "f37287fc464d3635386cd303a521fc65e1b1da6062909e6b6b39c2fc15aa649b", func := "girdle/girdlelaw24.HuntCorners", spec := "huntCorners", inPlace := ["internal/bytealg.IndexByteString", "internal/bytealg.IndexString"], unfollowed := true, recurses := true, named := ["math/bits.deBruijn32tab", "unicode/utf8.first", "unicode/utf8.acceptRanges", "internal/bytealg.MaxLen"], apart := false, laid := [("math/bits.deBruijn32tab", laid_math_bits_deBruijn32tab), ("unicode/utf8.acceptRanges", laid_unicode_utf8_acceptRanges), ("unicode/utf8.first", laid_unicode_utf8_first)] }
def HuntCornersSaid : Prop := huntCornersRow.holds Tryz.pinned (OpenSpec.ofChange huntCornersSpec)

/-- ITS FALSE NEIGHBOUR: 'it returns false'. Refute it at one input. -/
def huntCornersWrong : ChangeSpec := { name := "huntCorners", fn := fun _ => fun
  | [d1, d2, d3] => { results := [.lit (.bool false)], args := [d1, d2, d3] }
  | _ => none }
def HuntCornersWrongFalsely : Prop := huntCornersRow.holds Tryz.pinned (OpenSpec.ofChange huntCornersWrong)

/-- 'girdlelaw23.DecideKeeps': WHATEVER THE INPUT: true; the input reads as it did. -/
def decideKeepsSpec : ChangeSpec := { name := "decideKeeps", fn := fun _ => fun
  | [d1, d2, d3] => { results := [.lit (.bool true)], args := [d1, d2, d3] }
  | _ => none }
def decideKeepsRow : OpenClaim := { program := "ytjdkdcmpifapeaagreatdoor", sum := "f37287fc464d3635386cd303a521fc65e1b1da6062909e6b6b39c2fc15aa649b", func := "girdle/girdlelaw23.DecideKeeps", spec := "decideKeeps", unfollowed := true, recurses := true, named := ["math/bits.deBruijn32tab"], apart := false, laid := [("math/bits.deBruijn32tab", laid_math_bits_deBruijn32tab)] }
def DecideKeepsSaid : Prop := decideKeepsRow.holds Tryz.pinned (OpenSpec.ofChange decideKeepsSpec)

/-- ITS FALSE NEIGHBOUR: 'it returns false'. Refute it at one input. -/
def decideKeepsWrong : ChangeSpec := { name := "decideKeeps", fn := fun _ => fun
  | [d1, d2, d3] => { results := [.lit (.bool false)], args := [d1, d2, d3] }
  | _ => none }
def DecideKeepsWrongFalsely : Prop := decideKeepsRow.holds Tryz.pinned (OpenSpec.ofChange decideKeepsWrong)

/-- 'girdlelaw23.DecideFar': WHATEVER THE INPUT: true; the input reads as it did. -/
def decideFarSpec : ChangeSpec := { name := "decideFar", fn := fun _ => fun
  | [d1, d2, d3] => { results := [.lit (.bool true)], args := [d1, d2, d3] }
  | _ => none }
def decideFarRow : OpenClaim := { program := "ytjdkdcmpifapeaagreatdoor", sum := "f37287fc464d3635386cd303a521fc65e1b1da6062909e6b6b39c2fc15aa649b", func := "girdle/girdlelaw23.DecideFar", spec := "decideFar", unfollowed := true, recurses := true, named := ["math/bits.deBruijn32tab"], apart := false, laid := [("math/bits.deBruijn32tab", laid_math_bits_deBruijn32tab)] }
def DecideFarSaid : Prop := decideFarRow.holds Tryz.pinned (OpenSpec.ofChange decideFarSpec)

/-- ITS FALSE NEIGHBOUR: 'it returns false'. Refute it at one input. -/
def decideFarWrong : ChangeSpec := { name := "decideFar", fn := fun _ => fun
  | [d1, d2, d3] => { results := [.lit (.bool false)], args := [d1, d2, d3] }
  | _ => none }
def DecideFarWrongFalsely : Prop := decideFarRow.holds Tryz.pinned (OpenSpec.ofChange decideFarWrong)

/- THE SECOND FORM. 'bulk': how many values and letters a reading holds, each counted each time it is reached (what is shared counts as often as it is met; a slice's spare places count too). A statement '..UptoSaid' is the law's where the arguments, and the package variables that the reading takes, are together of bulk at most 1048576: NARROWER than '..Said'. Prove '..Said' where nothing that the law and all that it calls make is longer than what came in: it says more and counts as full. Else prove '..UptoSaid'. A law counts once. -/
mutual
def uptoBulk {H : Type} : DataW H → Nat
  | .lit (.string bytes) => bytes.length + 1
  | .lit _ => 1
  | .nil => 1
  | .ptr d => uptoBulk d + 1
  | .slice elems spare => uptoBulkAll elems + uptoBulkAll spare + 1
  | .agg parts => uptoBulkAll parts + 1
  | .iface _ d => uptoBulk d + 1
  | .map entries => uptoBulkEntries entries + 1
  | .held _ => 1
def uptoBulkAll {H : Type} : List (DataW H) → Nat
  | [] => 0
  | d :: r => uptoBulk d + uptoBulkAll r
def uptoBulkEntries {H : Type} : List (Lit × DataW H) → Nat
  | [] => 0
  | x :: r => uptoBulkEntry x + uptoBulkEntries r
def uptoBulkEntry {H : Type} : Lit × DataW H → Nat
  | (.string bytes, d) => bytes.length + uptoBulk d + 1
  | (_, d) => uptoBulk d + 1
 end
def uptoSmall : (H : Type) → List (DataW H) → Bool := fun _ ds => decide (uptoBulkAll ds ≤ 1048576)
def OpenSpec.upto (s : _root_.Go.ChangeSpec) : _root_.Go.OpenSpec := { _root_.Go.OpenSpec.ofChange s with cond := some uptoSmall }

/-- 'girdlelaw13.SeriesExact', WHERE WHAT IT READS IS OF BULK AT MOST 1048576: true; the input reads as it did. -/
def seriesExactUptoRow : OpenClaim := { program := "ytjdkdcmpifapeaagreatdoor", sum := "f37287fc464d3635386cd303a521fc65e1b1da6062909e6b6b39c2fc15aa649b", func := "girdle/girdlelaw13.SeriesExact", spec := "seriesExact", unfollowed := true, recurses := true, named := ["math/bits.deBruijn32tab"], apart := false, laid := [("math/bits.deBruijn32tab", laid_math_bits_deBruijn32tab)], narrowed := true }
def SeriesExactUptoSaid : Prop := seriesExactUptoRow.holds Tryz.pinned (OpenSpec.upto seriesExactSpec)

/-- 'girdlelaw13.SeriesHolds', WHERE WHAT IT READS IS OF BULK AT MOST 1048576: true; the input reads as it did. -/
def seriesHoldsUptoRow : OpenClaim := { program := "ytjdkdcmpifapeaagreatdoor", sum := "f37287fc464d3635386cd303a521fc65e1b1da6062909e6b6b39c2fc15aa649b", func := "girdle/girdlelaw13.SeriesHolds", spec := "seriesHolds", unfollowed := true, recurses := true, named := ["math/bits.deBruijn32tab"], apart := false, laid := [("math/bits.deBruijn32tab", laid_math_bits_deBruijn32tab)], narrowed := true }
def SeriesHoldsUptoSaid : Prop := seriesHoldsUptoRow.holds Tryz.pinned (OpenSpec.upto seriesHoldsSpec)

/-- 'girdlelaw13.SeriesAdds', WHERE WHAT IT READS IS OF BULK AT MOST 1048576: true; the input reads as it did. -/
def seriesAddsUptoRow : OpenClaim := { program := "ytjdkdcmpifapeaagreatdoor", sum := "f37287fc464d3635386cd303a521fc65e1b1da6062909e6b6b39c2fc15aa649b", func := "girdle/girdlelaw13.SeriesAdds", spec := "seriesAdds", unfollowed := true, recurses := true, named := ["math/bits.deBruijn32tab"], apart := false, laid := [("math/bits.deBruijn32tab", laid_math_bits_deBruijn32tab)], narrowed := true }
def SeriesAddsUptoSaid : Prop := seriesAddsUptoRow.holds Tryz.pinned (OpenSpec.upto seriesAddsSpec)

/-- 'girdlelaw19.BloatOff', WHERE WHAT IT READS IS OF BULK AT MOST 1048576: true; the input reads as it did. -/
def bloatOffUptoRow : OpenClaim := { program := "ytjdkdcmpifapeaagreatdoor", sum := "f37287fc464d3635386cd303a521fc65e1b1da6062909e6b6b39c2fc15aa649b", func := "girdle/girdlelaw19.BloatOff", spec := "bloatOff", unfollowed := true, recurses := true, named := ["math/bits.deBruijn32tab"], apart := false, laid := [("math/bits.deBruijn32tab", laid_math_bits_deBruijn32tab)], narrowed := true }
def BloatOffUptoSaid : Prop := bloatOffUptoRow.holds Tryz.pinned (OpenSpec.upto bloatOffSpec)

/-- 'girdlelaw21.ReachTruth', WHERE WHAT IT READS IS OF BULK AT MOST 1048576: true; the input reads as it did. -/
def reachTruthUptoRow : OpenClaim := { program := "ytjdkdcmpifapeaagreatdoor", sum := "f37287fc464d3635386cd303a521fc65e1b1da6062909e6b6b39c2fc15aa649b", func := "girdle/girdlelaw21.ReachTruth", spec := "reachTruth", unfollowed := true, recurses := true, named := ["math/bits.deBruijn32tab"], apart := false, laid := [("math/bits.deBruijn32tab", laid_math_bits_deBruijn32tab)], narrowed := true }
def ReachTruthUptoSaid : Prop := reachTruthUptoRow.holds Tryz.pinned (OpenSpec.upto reachTruthSpec)

/-- 'girdlelaw20.FlowRefuses', WHERE WHAT IT READS IS OF BULK AT MOST 1048576: true; the input reads as it did. -/
def flowRefusesUptoRow : OpenClaim := { program := "ytjdkdcmpifapeaagreatdoor", sum := "f37287fc464d3635386cd303a521fc65e1b1da6062909e6b6b39c2fc15aa649b", func := "girdle/girdlelaw20.FlowRefuses", spec := "flowRefuses", unfollowed := true, recurses := true, named := ["math/bits.deBruijn32tab"], apart := false, laid := [("math/bits.deBruijn32tab", laid_math_bits_deBruijn32tab)], narrowed := true }
def FlowRefusesUptoSaid : Prop := flowRefusesUptoRow.holds Tryz.pinned (OpenSpec.upto flowRefusesSpec)

/-- 'girdlelaw20.FlowBegins', WHERE WHAT IT READS IS OF BULK AT MOST 1048576: true; the input reads as it did. -/
def flowBeginsUptoRow : OpenClaim := { program := "ytjdkdcmpifapeaagreatdoor", sum := "f37287fc464d3635386cd303a521fc65e1b1da6062909e6b6b39c2fc15aa649b", func := "girdle/girdlelaw20.FlowBegins", spec := "flowBegins", unfollowed := true, recurses := true, named := ["math/bits.deBruijn32tab"], apart := false, laid := [("math/bits.deBruijn32tab", laid_math_bits_deBruijn32tab)], narrowed := true }
def FlowBeginsUptoSaid : Prop := flowBeginsUptoRow.holds Tryz.pinned (OpenSpec.upto flowBeginsSpec)

/-- 'girdlelaw20.FlowTruth', WHERE WHAT IT READS IS OF BULK AT MOST 1048576: true; the input reads as it did. -/
def flowTruthUptoRow : OpenClaim := { program := "ytjdkdcmpifapeaagreatdoor", sum := "f37287fc464d3635386cd303a521fc65e1b1da6062909e6b6b39c2fc15aa649b", func := "girdle/girdlelaw20.FlowTruth", spec := "flowTruth", unfollowed := true, recurses := true, named := ["math/bits.deBruijn32tab"], apart := false, laid := [("math/bits.deBruijn32tab", laid_math_bits_deBruijn32tab)], narrowed := true }
def FlowTruthUptoSaid : Prop := flowTruthUptoRow.holds Tryz.pinned (OpenSpec.upto flowTruthSpec)

/-- 'girdlelaw24.HuntCorners', WHERE WHAT IT READS IS OF BULK AT MOST 1048576: true; the input reads as it did. -/
def huntCornersUptoRow : OpenClaim := { program := "ytjdkdcmpifapeaagreatdoor", sum := "f37287fc464d3635386cd303a521fc65e1b1da6062909e6b6b39c2fc15aa649b", func := "girdle/girdlelaw24.HuntCorners", spec := "huntCorners", inPlace := ["internal/bytealg.IndexByteString", "internal/bytealg.IndexString"], unfollowed := true, recurses := true, named := ["math/bits.deBruijn32tab", "unicode/utf8.first", "unicode/utf8.acceptRanges", "internal/bytealg.MaxLen"], apart := false, laid := [("math/bits.deBruijn32tab", laid_math_bits_deBruijn32tab), ("unicode/utf8.acceptRanges", laid_unicode_utf8_acceptRanges), ("unicode/utf8.first", laid_unicode_utf8_first)], narrowed := true }
def HuntCornersUptoSaid : Prop := huntCornersUptoRow.holds Tryz.pinned (OpenSpec.upto huntCornersSpec)

/-- 'girdlelaw23.DecideKeeps', WHERE WHAT IT READS IS OF BULK AT MOST 1048576: true; the input reads as it did. -/
def decideKeepsUptoRow : OpenClaim := { program := "ytjdkdcmpifapeaagreatdoor", sum := "f37287fc464d3635386cd303a521fc65e1b1da6062909e6b6b39c2fc15aa649b", func := "girdle/girdlelaw23.DecideKeeps", spec := "decideKeeps", unfollowed := true, recurses := true, named := ["math/bits.deBruijn32tab"], apart := false, laid := [("math/bits.deBruijn32tab", laid_math_bits_deBruijn32tab)], narrowed := true }
def DecideKeepsUptoSaid : Prop := decideKeepsUptoRow.holds Tryz.pinned (OpenSpec.upto decideKeepsSpec)

/-- 'girdlelaw23.DecideFar', WHERE WHAT IT READS IS OF BULK AT MOST 1048576: true; the input reads as it did. -/
def decideFarUptoRow : OpenClaim := { program := "ytjdkdcmpifapeaagreatdoor", sum := "f37287fc464d3635386cd303a521fc65e1b1da6062909e6b6b39c2fc15aa649b", func := "girdle/girdlelaw23.DecideFar", spec := "decideFar", unfollowed := true, recurses := true, named := ["math/bits.deBruijn32tab"], apart := false, laid := [("math/bits.deBruijn32tab", laid_math_bits_deBruijn32tab)], narrowed := true }
def DecideFarUptoSaid : Prop := decideFarUptoRow.holds Tryz.pinned (OpenSpec.upto decideFarSpec)

end Rows
end Go.Proofs.YtjdkdcmpifapeaaGreatDoor
