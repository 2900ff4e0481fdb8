/-
  NARROWER THAN 'FOR EVERY INPUT', by the rows' own cells (each row's printed sentence says how): SeriesExact: laid · SeriesTerms: laid · SeriesBack: laid · SeriesHolds: laid · SeriesTwice: laid · SeriesAdds: laid · SeriesLaw: laid · GrowHolds: laid · GrowBounds: laid · GrowRises: laid · GrowRefuses: laid · GrowGroups: laid.
  DERIVED. THE GIVEN ROWS OF THIS SEAT. 12 by the template 'for every input the law returns true; each argument reads behind the call as it read before'; 0 by the template 'total and deterministic' (their statements: YtoofmffmgdkinaaGreatDoorTotals.lean).
  GIVEN WITH THE SEED: the statements are not yours to turn. If you find one false, say at which input.
  Laid BY PROGRAM, IN A SANDBOX (cutbox-rows.mjs): the forced cells as the released guide's own fill.sh prints them over the translation b77a69ee0719f2ba… (all of the seat's roots in one cut). By AI agents, Wed Nov 11 2026. No macro, syntax, notation, axiom, sorry.
-/
import Derived.Test.YtoofmffmgdkinaaGreatDoorChecked
import GoSem.PinnedTables
import GoSem.Claim
import GoSem.ClaimJoined
import GoSem.ClaimMapViews
import Derived.JoinedTies
import Derived.KernelRfl
namespace Go.Proofs.YtoofmffmgdkinaaGreatDoor
/- THE CELL 'sum', in the pinned program and in every row, IS THE sha256 OF THE DUMP (.gsa) THAT YtoofmffmgdkinaaGreatDoorProg.lean LOADS. Nothing in Lean hashes anything: it is a label: what it is worth is what the hold of that sum in a sandbox is worth. -/
noncomputable def Tryz.pinned : Pinned := { name := "ytoofmffmgdkinaagreatdoor", sum := "b77a69ee0719f2baac093e92145b07c6c74e7aa5f6899201eeae3fb197276d4d", checked := Tryz.checked }
namespace Rows
def none {H : Type} : Left H := { results := [], args := [] }

/- WHAT THE LISTED PACKAGE-LEVEL VARIABLES READ AS WHEN THE CALL BEGINS. Each datum BY PROGRAM (the guide's laid-datum.mjs) off the statement by which the dump's own 'gosem.cut.vars' lays the variable. In a bare row this is a premise. The card (YtoofmffmgdkinaaGreatDoorCards.lean) ties it to the program's text. -/
def laid_math_bits_deBruijn32tab {H : Type} : DataW H := .agg [.lit (.int .u8 0), .lit (.int .u8 1), .lit (.int .u8 28), .lit (.int .u8 2), .lit (.int .u8 29), .lit (.int .u8 14), .lit (.int .u8 24), .lit (.int .u8 3), .lit (.int .u8 30), .lit (.int .u8 22), .lit (.int .u8 20), .lit (.int .u8 15), .lit (.int .u8 25), .lit (.int .u8 17), .lit (.int .u8 4), .lit (.int .u8 8), .lit (.int .u8 31), .lit (.int .u8 27), .lit (.int .u8 13), .lit (.int .u8 23), .lit (.int .u8 21), .lit (.int .u8 19), .lit (.int .u8 16), .lit (.int .u8 7), .lit (.int .u8 26), .lit (.int .u8 12), .lit (.int .u8 18), .lit (.int .u8 6), .lit (.int .u8 11), .lit (.int .u8 5), .lit (.int .u8 10), .lit (.int .u8 9)]
def laid_unicode_utf8_acceptRanges {H : Type} : DataW H := .agg [.agg [.lit (.int .u8 128), .lit (.int .u8 191)], .agg [.lit (.int .u8 160), .lit (.int .u8 191)], .agg [.lit (.int .u8 128), .lit (.int .u8 159)], .agg [.lit (.int .u8 144), .lit (.int .u8 191)], .agg [.lit (.int .u8 128), .lit (.int .u8 143)], .agg [.lit (.int .u8 0), .lit (.int .u8 0)], .agg [.lit (.int .u8 0), .lit (.int .u8 0)], .agg [.lit (.int .u8 0), .lit (.int .u8 0)], .agg [.lit (.int .u8 0), .lit (.int .u8 0)], .agg [.lit (.int .u8 0), .lit (.int .u8 0)], .agg [.lit (.int .u8 0), .lit (.int .u8 0)], .agg [.lit (.int .u8 0), .lit (.int .u8 0)], .agg [.lit (.int .u8 0), .lit (.int .u8 0)], .agg [.lit (.int .u8 0), .lit (.int .u8 0)], .agg [.lit (.int .u8 0), .lit (.int .u8 0)], .agg [.lit (.int .u8 0), .lit (.int .u8 0)]]
/-- One of Go's own tables, pinned by name: the form's constant. -/
def laid_unicode_utf8_first : DataW Unit := Go.Pinned.utf8First

/-- 'girdlelaw13.SeriesExact': WHATEVER THE INPUT: true; the input reads as it did. -/
def seriesExactSpec : ChangeSpec := { name := "seriesExact", fn := fun _ => fun
  | [d1, d2, d3] => { results := [.lit (.bool true)], args := [d1, d2, d3] }
  | _ => none }
def seriesExactRow : OpenClaim := { program := "ytoofmffmgdkinaagreatdoor", sum := "b77a69ee0719f2baac093e92145b07c6c74e7aa5f6899201eeae3fb197276d4d", func := "girdle/girdlelaw13.SeriesExact", spec := "seriesExact", unfollowed := true, recurses := true, named := ["math/bits.deBruijn32tab"], apart := false, laid := [("math/bits.deBruijn32tab", laid_math_bits_deBruijn32tab)] }
def SeriesExactSaid : Prop := seriesExactRow.holds Tryz.pinned (OpenSpec.ofChange seriesExactSpec)

/-- ITS FALSE NEIGHBOUR: 'it returns false'. Refute it at one input. -/
def seriesExactWrong : ChangeSpec := { name := "seriesExact", fn := fun _ => fun
  | [d1, d2, d3] => { results := [.lit (.bool false)], args := [d1, d2, d3] }
  | _ => none }
def SeriesExactWrongFalsely : Prop := seriesExactRow.holds Tryz.pinned (OpenSpec.ofChange seriesExactWrong)

/-- 'girdlelaw13.SeriesTerms': WHATEVER THE INPUT: true; the input reads as it did. -/
def seriesTermsSpec : ChangeSpec := { name := "seriesTerms", fn := fun _ => fun
  | [d] => { results := [.lit (.bool true)], args := [d] }
  | _ => none }
def seriesTermsRow : OpenClaim := { program := "ytoofmffmgdkinaagreatdoor", sum := "b77a69ee0719f2baac093e92145b07c6c74e7aa5f6899201eeae3fb197276d4d", func := "girdle/girdlelaw13.SeriesTerms", spec := "seriesTerms", unfollowed := true, recurses := true, named := ["math/bits.deBruijn32tab"], apart := false, laid := [("math/bits.deBruijn32tab", laid_math_bits_deBruijn32tab)] }
def SeriesTermsSaid : Prop := seriesTermsRow.holds Tryz.pinned (OpenSpec.ofChange seriesTermsSpec)

/-- ITS FALSE NEIGHBOUR: 'it returns false'. Refute it at one input. -/
def seriesTermsWrong : ChangeSpec := { name := "seriesTerms", fn := fun _ => fun
  | [d] => { results := [.lit (.bool false)], args := [d] }
  | _ => none }
def SeriesTermsWrongFalsely : Prop := seriesTermsRow.holds Tryz.pinned (OpenSpec.ofChange seriesTermsWrong)

/-- 'girdlelaw13.SeriesBack': WHATEVER THE INPUT: true; the input reads as it did. -/
def seriesBackSpec : ChangeSpec := { name := "seriesBack", fn := fun _ => fun
  | [d1, d2, d3] => { results := [.lit (.bool true)], args := [d1, d2, d3] }
  | _ => none }
def seriesBackRow : OpenClaim := { program := "ytoofmffmgdkinaagreatdoor", sum := "b77a69ee0719f2baac093e92145b07c6c74e7aa5f6899201eeae3fb197276d4d", func := "girdle/girdlelaw13.SeriesBack", spec := "seriesBack", unfollowed := true, recurses := true, named := ["math/bits.deBruijn32tab"], apart := false, laid := [("math/bits.deBruijn32tab", laid_math_bits_deBruijn32tab)] }
def SeriesBackSaid : Prop := seriesBackRow.holds Tryz.pinned (OpenSpec.ofChange seriesBackSpec)

/-- ITS FALSE NEIGHBOUR: 'it returns false'. Refute it at one input. -/
def seriesBackWrong : ChangeSpec := { name := "seriesBack", fn := fun _ => fun
  | [d1, d2, d3] => { results := [.lit (.bool false)], args := [d1, d2, d3] }
  | _ => none }
def SeriesBackWrongFalsely : Prop := seriesBackRow.holds Tryz.pinned (OpenSpec.ofChange seriesBackWrong)

/-- 'girdlelaw13.SeriesHolds': WHATEVER THE INPUT: true; the input reads as it did. -/
def seriesHoldsSpec : ChangeSpec := { name := "seriesHolds", fn := fun _ => fun
  | [d1, d2, d3] => { results := [.lit (.bool true)], args := [d1, d2, d3] }
  | _ => none }
def seriesHoldsRow : OpenClaim := { program := "ytoofmffmgdkinaagreatdoor", sum := "b77a69ee0719f2baac093e92145b07c6c74e7aa5f6899201eeae3fb197276d4d", func := "girdle/girdlelaw13.SeriesHolds", spec := "seriesHolds", unfollowed := true, recurses := true, named := ["math/bits.deBruijn32tab"], apart := false, laid := [("math/bits.deBruijn32tab", laid_math_bits_deBruijn32tab)] }
def SeriesHoldsSaid : Prop := seriesHoldsRow.holds Tryz.pinned (OpenSpec.ofChange seriesHoldsSpec)

/-- ITS FALSE NEIGHBOUR: 'it returns false'. Refute it at one input. -/
def seriesHoldsWrong : ChangeSpec := { name := "seriesHolds", fn := fun _ => fun
  | [d1, d2, d3] => { results := [.lit (.bool false)], args := [d1, d2, d3] }
  | _ => none }
def SeriesHoldsWrongFalsely : Prop := seriesHoldsRow.holds Tryz.pinned (OpenSpec.ofChange seriesHoldsWrong)

/-- 'girdlelaw13.SeriesTwice': WHATEVER THE INPUT: true; the input reads as it did. -/
def seriesTwiceSpec : ChangeSpec := { name := "seriesTwice", fn := fun _ => fun
  | [d1, d2, d3] => { results := [.lit (.bool true)], args := [d1, d2, d3] }
  | _ => none }
def seriesTwiceRow : OpenClaim := { program := "ytoofmffmgdkinaagreatdoor", sum := "b77a69ee0719f2baac093e92145b07c6c74e7aa5f6899201eeae3fb197276d4d", func := "girdle/girdlelaw13.SeriesTwice", spec := "seriesTwice", unfollowed := true, recurses := true, named := ["math/bits.deBruijn32tab"], apart := false, laid := [("math/bits.deBruijn32tab", laid_math_bits_deBruijn32tab)] }
def SeriesTwiceSaid : Prop := seriesTwiceRow.holds Tryz.pinned (OpenSpec.ofChange seriesTwiceSpec)

/-- ITS FALSE NEIGHBOUR: 'it returns false'. Refute it at one input. -/
def seriesTwiceWrong : ChangeSpec := { name := "seriesTwice", fn := fun _ => fun
  | [d1, d2, d3] => { results := [.lit (.bool false)], args := [d1, d2, d3] }
  | _ => none }
def SeriesTwiceWrongFalsely : Prop := seriesTwiceRow.holds Tryz.pinned (OpenSpec.ofChange seriesTwiceWrong)

/-- 'girdlelaw13.SeriesAdds': WHATEVER THE INPUT: true; the input reads as it did. -/
def seriesAddsSpec : ChangeSpec := { name := "seriesAdds", fn := fun _ => fun
  | [d1, d2, d3] => { results := [.lit (.bool true)], args := [d1, d2, d3] }
  | _ => none }
def seriesAddsRow : OpenClaim := { program := "ytoofmffmgdkinaagreatdoor", sum := "b77a69ee0719f2baac093e92145b07c6c74e7aa5f6899201eeae3fb197276d4d", func := "girdle/girdlelaw13.SeriesAdds", spec := "seriesAdds", unfollowed := true, recurses := true, named := ["math/bits.deBruijn32tab"], apart := false, laid := [("math/bits.deBruijn32tab", laid_math_bits_deBruijn32tab)] }
def SeriesAddsSaid : Prop := seriesAddsRow.holds Tryz.pinned (OpenSpec.ofChange seriesAddsSpec)

/-- ITS FALSE NEIGHBOUR: 'it returns false'. Refute it at one input. -/
def seriesAddsWrong : ChangeSpec := { name := "seriesAdds", fn := fun _ => fun
  | [d1, d2, d3] => { results := [.lit (.bool false)], args := [d1, d2, d3] }
  | _ => none }
def SeriesAddsWrongFalsely : Prop := seriesAddsRow.holds Tryz.pinned (OpenSpec.ofChange seriesAddsWrong)

/-- 'girdlelaw13.SeriesLaw': WHATEVER THE INPUT: true; the input reads as it did. -/
def seriesLawSpec : ChangeSpec := { name := "seriesLaw", fn := fun _ => fun
  | [d1, d2, d3] => { results := [.lit (.bool true)], args := [d1, d2, d3] }
  | _ => none }
def seriesLawRow : OpenClaim := { program := "ytoofmffmgdkinaagreatdoor", sum := "b77a69ee0719f2baac093e92145b07c6c74e7aa5f6899201eeae3fb197276d4d", func := "girdle/girdlelaw13.SeriesLaw", spec := "seriesLaw", unfollowed := true, recurses := true, named := ["math/bits.deBruijn32tab"], apart := false, laid := [("math/bits.deBruijn32tab", laid_math_bits_deBruijn32tab)] }
def SeriesLawSaid : Prop := seriesLawRow.holds Tryz.pinned (OpenSpec.ofChange seriesLawSpec)

/-- ITS FALSE NEIGHBOUR: 'it returns false'. Refute it at one input. -/
def seriesLawWrong : ChangeSpec := { name := "seriesLaw", fn := fun _ => fun
  | [d1, d2, d3] => { results := [.lit (.bool false)], args := [d1, d2, d3] }
  | _ => none }
def SeriesLawWrongFalsely : Prop := seriesLawRow.holds Tryz.pinned (OpenSpec.ofChange seriesLawWrong)

/-- 'girdlelaw14.GrowHolds': WHATEVER THE INPUT: true; the input reads as it did. -/
def growHoldsSpec : ChangeSpec := { name := "growHolds", fn := fun _ => fun
  | [d1, d2] => { results := [.lit (.bool true)], args := [d1, d2] }
  | _ => none }
def growHoldsRow : OpenClaim := { program := "ytoofmffmgdkinaagreatdoor", sum := "b77a69ee0719f2baac093e92145b07c6c74e7aa5f6899201eeae3fb197276d4d", func := "girdle/girdlelaw14.GrowHolds", spec := "growHolds", inPlace := ["internal/bytealg.IndexByteString", "internal/bytealg.IndexString"], unfollowed := true, recurses := true, named := ["math/bits.deBruijn32tab", "unicode/utf8.first", "unicode/utf8.acceptRanges", "internal/bytealg.MaxLen"], apart := false, laid := [("math/bits.deBruijn32tab", laid_math_bits_deBruijn32tab), ("unicode/utf8.acceptRanges", laid_unicode_utf8_acceptRanges), ("unicode/utf8.first", laid_unicode_utf8_first)] }
def GrowHoldsSaid : Prop := growHoldsRow.holds Tryz.pinned (OpenSpec.ofChange growHoldsSpec)

/-- ITS FALSE NEIGHBOUR: 'it returns false'. Refute it at one input. -/
def growHoldsWrong : ChangeSpec := { name := "growHolds", fn := fun _ => fun
  | [d1, d2] => { results := [.lit (.bool false)], args := [d1, d2] }
  | _ => none }
def GrowHoldsWrongFalsely : Prop := growHoldsRow.holds Tryz.pinned (OpenSpec.ofChange growHoldsWrong)

/-- 'girdlelaw14.GrowBounds': WHATEVER THE INPUT: true; the input reads as it did. -/
def growBoundsSpec : ChangeSpec := { name := "growBounds", fn := fun _ => fun
  | [d1, d2] => { results := [.lit (.bool true)], args := [d1, d2] }
  | _ => none }
def growBoundsRow : OpenClaim := { program := "ytoofmffmgdkinaagreatdoor", sum := "b77a69ee0719f2baac093e92145b07c6c74e7aa5f6899201eeae3fb197276d4d", func := "girdle/girdlelaw14.GrowBounds", spec := "growBounds", inPlace := ["internal/bytealg.IndexByteString", "internal/bytealg.IndexString"], unfollowed := true, recurses := true, named := ["math/bits.deBruijn32tab", "unicode/utf8.first", "unicode/utf8.acceptRanges", "internal/bytealg.MaxLen"], apart := false, laid := [("math/bits.deBruijn32tab", laid_math_bits_deBruijn32tab), ("unicode/utf8.acceptRanges", laid_unicode_utf8_acceptRanges), ("unicode/utf8.first", laid_unicode_utf8_first)] }
def GrowBoundsSaid : Prop := growBoundsRow.holds Tryz.pinned (OpenSpec.ofChange growBoundsSpec)

/-- ITS FALSE NEIGHBOUR: 'it returns false'. Refute it at one input. -/
def growBoundsWrong : ChangeSpec := { name := "growBounds", fn := fun _ => fun
  | [d1, d2] => { results := [.lit (.bool false)], args := [d1, d2] }
  | _ => none }
def GrowBoundsWrongFalsely : Prop := growBoundsRow.holds Tryz.pinned (OpenSpec.ofChange growBoundsWrong)

/-- 'girdlelaw14.GrowRises': WHATEVER THE INPUT: true; the input reads as it did. -/
def growRisesSpec : ChangeSpec := { name := "growRises", fn := fun _ => fun
  | [d1, d2, d3] => { results := [.lit (.bool true)], args := [d1, d2, d3] }
  | _ => none }
def growRisesRow : OpenClaim := { program := "ytoofmffmgdkinaagreatdoor", sum := "b77a69ee0719f2baac093e92145b07c6c74e7aa5f6899201eeae3fb197276d4d", func := "girdle/girdlelaw14.GrowRises", spec := "growRises", inPlace := ["internal/bytealg.IndexByteString", "internal/bytealg.IndexString"], unfollowed := true, recurses := true, named := ["math/bits.deBruijn32tab", "unicode/utf8.first", "unicode/utf8.acceptRanges", "internal/bytealg.MaxLen"], apart := false, laid := [("math/bits.deBruijn32tab", laid_math_bits_deBruijn32tab), ("unicode/utf8.acceptRanges", laid_unicode_utf8_acceptRanges), ("unicode/utf8.first", laid_unicode_utf8_first)] }
def GrowRisesSaid : Prop := growRisesRow.holds Tryz.pinned (OpenSpec.ofChange growRisesSpec)

/-- ITS FALSE NEIGHBOUR: 'it returns false'. Refute it at one input. -/
def growRisesWrong : ChangeSpec := { name := "growRises", fn := fun _ => fun
  | [d1, d2, d3] => { results := [.lit (.bool false)], args := [d1, d2, d3] }
  | _ => none }
def GrowRisesWrongFalsely : Prop := growRisesRow.holds Tryz.pinned (OpenSpec.ofChange growRisesWrong)

/-- 'girdlelaw14.GrowRefuses': WHATEVER THE INPUT: true; the input reads as it did. -/
def growRefusesSpec : ChangeSpec := { name := "growRefuses", fn := fun _ => fun
  | [d1, d2] => { results := [.lit (.bool true)], args := [d1, d2] }
  | _ => none }
def growRefusesRow : OpenClaim := { program := "ytoofmffmgdkinaagreatdoor", sum := "b77a69ee0719f2baac093e92145b07c6c74e7aa5f6899201eeae3fb197276d4d", func := "girdle/girdlelaw14.GrowRefuses", spec := "growRefuses", inPlace := ["internal/bytealg.IndexByteString", "internal/bytealg.IndexString"], unfollowed := true, recurses := true, named := ["math/bits.deBruijn32tab", "unicode/utf8.first", "unicode/utf8.acceptRanges", "internal/bytealg.MaxLen"], apart := false, laid := [("math/bits.deBruijn32tab", laid_math_bits_deBruijn32tab), ("unicode/utf8.acceptRanges", laid_unicode_utf8_acceptRanges), ("unicode/utf8.first", laid_unicode_utf8_first)] }
def GrowRefusesSaid : Prop := growRefusesRow.holds Tryz.pinned (OpenSpec.ofChange growRefusesSpec)

/-- ITS FALSE NEIGHBOUR: 'it returns false'. Refute it at one input. -/
def growRefusesWrong : ChangeSpec := { name := "growRefuses", fn := fun _ => fun
  | [d1, d2] => { results := [.lit (.bool false)], args := [d1, d2] }
  | _ => none }
def GrowRefusesWrongFalsely : Prop := growRefusesRow.holds Tryz.pinned (OpenSpec.ofChange growRefusesWrong)

/-- 'girdlelaw14.GrowGroups': WHATEVER THE INPUT: true; the input reads as it did. -/
def growGroupsSpec : ChangeSpec := { name := "growGroups", fn := fun _ => fun
  | [d1, d2, d3] => { results := [.lit (.bool true)], args := [d1, d2, d3] }
  | _ => none }
def growGroupsRow : OpenClaim := { program := "ytoofmffmgdkinaagreatdoor", sum := "b77a69ee0719f2baac093e92145b07c6c74e7aa5f6899201eeae3fb197276d4d", func := "girdle/girdlelaw14.GrowGroups", spec := "growGroups", inPlace := ["internal/bytealg.IndexByteString", "internal/bytealg.IndexString"], unfollowed := true, recurses := true, named := ["math/bits.deBruijn32tab", "unicode/utf8.first", "unicode/utf8.acceptRanges", "internal/bytealg.MaxLen"], apart := false, laid := [("math/bits.deBruijn32tab", laid_math_bits_deBruijn32tab), ("unicode/utf8.acceptRanges", laid_unicode_utf8_acceptRanges), ("unicode/utf8.first", laid_unicode_utf8_first)] }
def GrowGroupsSaid : Prop := growGroupsRow.holds Tryz.pinned (OpenSpec.ofChange growGroupsSpec)

/-- ITS FALSE NEIGHBOUR: 'it returns false'. Refute it at one input. -/
def growGroupsWrong : ChangeSpec := { name := "growGroups", fn := fun _ => fun
  | [d1, d2, d3] => { results := [.lit (.bool false)], args := [d1, d2, d3] }
  | _ => none }
def GrowGroupsWrongFalsely : Prop := growGroupsRow.holds Tryz.pinned (OpenSpec.ofChange growGroupsWrong)

/- THE SECOND FORM. 'bulk': how many values and letters a reading holds, each counted each time it is reached (what is shared counts as often as it is met; a slice's spare places count too). A statement '..UptoSaid' is the law's where the arguments, and the package variables that the reading takes, are together of bulk at most 1048576: NARROWER than '..Said'. Prove '..Said' where nothing that the law and all that it calls make is longer than what came in: it says more and counts as full. Else prove '..UptoSaid'. A law counts once. -/
mutual
def uptoBulk {H : Type} : DataW H → Nat
  | .lit (.string bytes) => bytes.length + 1
  | .lit _ => 1
  | .nil => 1
  | .ptr d => uptoBulk d + 1
  | .slice elems spare => uptoBulkAll elems + uptoBulkAll spare + 1
  | .agg parts => uptoBulkAll parts + 1
  | .iface _ d => uptoBulk d + 1
  | .map entries => uptoBulkEntries entries + 1
  | .held _ => 1
def uptoBulkAll {H : Type} : List (DataW H) → Nat
  | [] => 0
  | d :: r => uptoBulk d + uptoBulkAll r
def uptoBulkEntries {H : Type} : List (Lit × DataW H) → Nat
  | [] => 0
  | x :: r => uptoBulkEntry x + uptoBulkEntries r
def uptoBulkEntry {H : Type} : Lit × DataW H → Nat
  | (.string bytes, d) => bytes.length + uptoBulk d + 1
  | (_, d) => uptoBulk d + 1
 end
def uptoSmall : (H : Type) → List (DataW H) → Bool := fun _ ds => decide (uptoBulkAll ds ≤ 1048576)
def OpenSpec.upto (s : _root_.Go.ChangeSpec) : _root_.Go.OpenSpec := { _root_.Go.OpenSpec.ofChange s with cond := some uptoSmall }

/-- 'girdlelaw13.SeriesExact', WHERE WHAT IT READS IS OF BULK AT MOST 1048576: true; the input reads as it did. -/
def seriesExactUptoRow : OpenClaim := { program := "ytoofmffmgdkinaagreatdoor", sum := "b77a69ee0719f2baac093e92145b07c6c74e7aa5f6899201eeae3fb197276d4d", func := "girdle/girdlelaw13.SeriesExact", spec := "seriesExact", unfollowed := true, recurses := true, named := ["math/bits.deBruijn32tab"], apart := false, laid := [("math/bits.deBruijn32tab", laid_math_bits_deBruijn32tab)], narrowed := true }
def SeriesExactUptoSaid : Prop := seriesExactUptoRow.holds Tryz.pinned (OpenSpec.upto seriesExactSpec)

/-- 'girdlelaw13.SeriesTerms', WHERE WHAT IT READS IS OF BULK AT MOST 1048576: true; the input reads as it did. -/
def seriesTermsUptoRow : OpenClaim := { program := "ytoofmffmgdkinaagreatdoor", sum := "b77a69ee0719f2baac093e92145b07c6c74e7aa5f6899201eeae3fb197276d4d", func := "girdle/girdlelaw13.SeriesTerms", spec := "seriesTerms", unfollowed := true, recurses := true, named := ["math/bits.deBruijn32tab"], apart := false, laid := [("math/bits.deBruijn32tab", laid_math_bits_deBruijn32tab)], narrowed := true }
def SeriesTermsUptoSaid : Prop := seriesTermsUptoRow.holds Tryz.pinned (OpenSpec.upto seriesTermsSpec)

/-- 'girdlelaw13.SeriesBack', WHERE WHAT IT READS IS OF BULK AT MOST 1048576: true; the input reads as it did. -/
def seriesBackUptoRow : OpenClaim := { program := "ytoofmffmgdkinaagreatdoor", sum := "b77a69ee0719f2baac093e92145b07c6c74e7aa5f6899201eeae3fb197276d4d", func := "girdle/girdlelaw13.SeriesBack", spec := "seriesBack", unfollowed := true, recurses := true, named := ["math/bits.deBruijn32tab"], apart := false, laid := [("math/bits.deBruijn32tab", laid_math_bits_deBruijn32tab)], narrowed := true }
def SeriesBackUptoSaid : Prop := seriesBackUptoRow.holds Tryz.pinned (OpenSpec.upto seriesBackSpec)

/-- 'girdlelaw13.SeriesHolds', WHERE WHAT IT READS IS OF BULK AT MOST 1048576: true; the input reads as it did. -/
def seriesHoldsUptoRow : OpenClaim := { program := "ytoofmffmgdkinaagreatdoor", sum := "b77a69ee0719f2baac093e92145b07c6c74e7aa5f6899201eeae3fb197276d4d", func := "girdle/girdlelaw13.SeriesHolds", spec := "seriesHolds", unfollowed := true, recurses := true, named := ["math/bits.deBruijn32tab"], apart := false, laid := [("math/bits.deBruijn32tab", laid_math_bits_deBruijn32tab)], narrowed := true }
def SeriesHoldsUptoSaid : Prop := seriesHoldsUptoRow.holds Tryz.pinned (OpenSpec.upto seriesHoldsSpec)

/-- 'girdlelaw13.SeriesTwice', WHERE WHAT IT READS IS OF BULK AT MOST 1048576: true; the input reads as it did. -/
def seriesTwiceUptoRow : OpenClaim := { program := "ytoofmffmgdkinaagreatdoor", sum := "b77a69ee0719f2baac093e92145b07c6c74e7aa5f6899201eeae3fb197276d4d", func := "girdle/girdlelaw13.SeriesTwice", spec := "seriesTwice", unfollowed := true, recurses := true, named := ["math/bits.deBruijn32tab"], apart := false, laid := [("math/bits.deBruijn32tab", laid_math_bits_deBruijn32tab)], narrowed := true }
def SeriesTwiceUptoSaid : Prop := seriesTwiceUptoRow.holds Tryz.pinned (OpenSpec.upto seriesTwiceSpec)

/-- 'girdlelaw13.SeriesAdds', WHERE WHAT IT READS IS OF BULK AT MOST 1048576: true; the input reads as it did. -/
def seriesAddsUptoRow : OpenClaim := { program := "ytoofmffmgdkinaagreatdoor", sum := "b77a69ee0719f2baac093e92145b07c6c74e7aa5f6899201eeae3fb197276d4d", func := "girdle/girdlelaw13.SeriesAdds", spec := "seriesAdds", unfollowed := true, recurses := true, named := ["math/bits.deBruijn32tab"], apart := false, laid := [("math/bits.deBruijn32tab", laid_math_bits_deBruijn32tab)], narrowed := true }
def SeriesAddsUptoSaid : Prop := seriesAddsUptoRow.holds Tryz.pinned (OpenSpec.upto seriesAddsSpec)

/-- 'girdlelaw13.SeriesLaw', WHERE WHAT IT READS IS OF BULK AT MOST 1048576: true; the input reads as it did. -/
def seriesLawUptoRow : OpenClaim := { program := "ytoofmffmgdkinaagreatdoor", sum := "b77a69ee0719f2baac093e92145b07c6c74e7aa5f6899201eeae3fb197276d4d", func := "girdle/girdlelaw13.SeriesLaw", spec := "seriesLaw", unfollowed := true, recurses := true, named := ["math/bits.deBruijn32tab"], apart := false, laid := [("math/bits.deBruijn32tab", laid_math_bits_deBruijn32tab)], narrowed := true }
def SeriesLawUptoSaid : Prop := seriesLawUptoRow.holds Tryz.pinned (OpenSpec.upto seriesLawSpec)

/-- 'girdlelaw14.GrowHolds', WHERE WHAT IT READS IS OF BULK AT MOST 1048576: true; the input reads as it did. -/
def growHoldsUptoRow : OpenClaim := { program := "ytoofmffmgdkinaagreatdoor", sum := "b77a69ee0719f2baac093e92145b07c6c74e7aa5f6899201eeae3fb197276d4d", func := "girdle/girdlelaw14.GrowHolds", spec := "growHolds", inPlace := ["internal/bytealg.IndexByteString", "internal/bytealg.IndexString"], unfollowed := true, recurses := true, named := ["math/bits.deBruijn32tab", "unicode/utf8.first", "unicode/utf8.acceptRanges", "internal/bytealg.MaxLen"], apart := false, laid := [("math/bits.deBruijn32tab", laid_math_bits_deBruijn32tab), ("unicode/utf8.acceptRanges", laid_unicode_utf8_acceptRanges), ("unicode/utf8.first", laid_unicode_utf8_first)], narrowed := true }
def GrowHoldsUptoSaid : Prop := growHoldsUptoRow.holds Tryz.pinned (OpenSpec.upto growHoldsSpec)

/-- 'girdlelaw14.GrowBounds', WHERE WHAT IT READS IS OF BULK AT MOST 1048576: true; the input reads as it did. -/
def growBoundsUptoRow : OpenClaim := { program := "ytoofmffmgdkinaagreatdoor", sum := "b77a69ee0719f2baac093e92145b07c6c74e7aa5f6899201eeae3fb197276d4d", func := "girdle/girdlelaw14.GrowBounds", spec := "growBounds", inPlace := ["internal/bytealg.IndexByteString", "internal/bytealg.IndexString"], unfollowed := true, recurses := true, named := ["math/bits.deBruijn32tab", "unicode/utf8.first", "unicode/utf8.acceptRanges", "internal/bytealg.MaxLen"], apart := false, laid := [("math/bits.deBruijn32tab", laid_math_bits_deBruijn32tab), ("unicode/utf8.acceptRanges", laid_unicode_utf8_acceptRanges), ("unicode/utf8.first", laid_unicode_utf8_first)], narrowed := true }
def GrowBoundsUptoSaid : Prop := growBoundsUptoRow.holds Tryz.pinned (OpenSpec.upto growBoundsSpec)

/-- 'girdlelaw14.GrowRises', WHERE WHAT IT READS IS OF BULK AT MOST 1048576: true; the input reads as it did. -/
def growRisesUptoRow : OpenClaim := { program := "ytoofmffmgdkinaagreatdoor", sum := "b77a69ee0719f2baac093e92145b07c6c74e7aa5f6899201eeae3fb197276d4d", func := "girdle/girdlelaw14.GrowRises", spec := "growRises", inPlace := ["internal/bytealg.IndexByteString", "internal/bytealg.IndexString"], unfollowed := true, recurses := true, named := ["math/bits.deBruijn32tab", "unicode/utf8.first", "unicode/utf8.acceptRanges", "internal/bytealg.MaxLen"], apart := false, laid := [("math/bits.deBruijn32tab", laid_math_bits_deBruijn32tab), ("unicode/utf8.acceptRanges", laid_unicode_utf8_acceptRanges), ("unicode/utf8.first", laid_unicode_utf8_first)], narrowed := true }
def GrowRisesUptoSaid : Prop := growRisesUptoRow.holds Tryz.pinned (OpenSpec.upto growRisesSpec)

/-- 'girdlelaw14.GrowRefuses', WHERE WHAT IT READS IS OF BULK AT MOST 1048576: true; the input reads as it did. -/
def growRefusesUptoRow : OpenClaim := { program := "ytoofmffmgdkinaagreatdoor", sum := "b77a69ee0719f2baac093e92145b07c6c74e7aa5f6899201eeae3fb197276d4d", func := "girdle/girdlelaw14.GrowRefuses", spec := "growRefuses", inPlace := ["internal/bytealg.IndexByteString", "internal/bytealg.IndexString"], unfollowed := true, recurses := true, named := ["math/bits.deBruijn32tab", "unicode/utf8.first", "unicode/utf8.acceptRanges", "internal/bytealg.MaxLen"], apart := false, laid := [("math/bits.deBruijn32tab", laid_math_bits_deBruijn32tab), ("unicode/utf8.acceptRanges", laid_unicode_utf8_acceptRanges), ("unicode/utf8.first", laid_unicode_utf8_first)], narrowed := true }
def GrowRefusesUptoSaid : Prop := growRefusesUptoRow.holds Tryz.pinned (OpenSpec.upto growRefusesSpec)

/-- 'girdlelaw14.GrowGroups', WHERE WHAT IT READS IS OF BULK AT MOST 1048576: true; the input reads as it did. -/
def growGroupsUptoRow : OpenClaim := { program := "ytoofmffmgdkinaagreatdoor", sum := "b77a69ee0719f2baac093e92145b07c6c74e7aa5f6899201eeae3fb197276d4d", func := "girdle/girdlelaw14.GrowGroups", spec := "growGroups", inPlace := ["internal/bytealg.IndexByteString", "internal/bytealg.IndexString"], unfollowed := true, recurses := true, named := ["math/bits.deBruijn32tab", "unicode/utf8.first", "unicode/utf8.acceptRanges", "internal/bytealg.MaxLen"], apart := false, laid := [("math/bits.deBruijn32tab", laid_math_bits_deBruijn32tab), ("unicode/utf8.acceptRanges", laid_unicode_utf8_acceptRanges), ("unicode/utf8.first", laid_unicode_utf8_first)], narrowed := true }
def GrowGroupsUptoSaid : Prop := growGroupsUptoRow.holds Tryz.pinned (OpenSpec.upto growGroupsSpec)

end Rows
end Go.Proofs.YtoofmffmgdkinaaGreatDoor
