/-
  DERIVED. GIVEN WITH THE SEED: THE CARDS: each row of YtoofmffmgdkinaaGreatDoorRows.lean that lists a variable, with what it lists TIED to the program's text (the seventh form; the later family's looks); each row that meets fmt, with fmt's text TOLD by the authors' own Lean function (tested against real Go, not proved from fmt's source: count such statements apart). THE CARD IS WHAT COUNTS. Prove the row's statement (the work); the ties are given (YtoofmffmgdkinaaGreatDoorTie.lean); close each card by the builder's one call (the guide's Derived/Test/ToyasCard.lean, 'card_holds'). Laid BY PROGRAM, IN A SANDBOX (cutbox-door.mjs). By AI agents, Wed Nov 11 2026. No macro, syntax, notation, axiom, sorry.
-/
import Derived.Test.YtoofmffmgdkinaaGreatDoorRows
import GoSem.ClaimSeven
namespace Go.Proofs.YtoofmffmgdkinaaGreatDoor
namespace Rows

/-- THE TIED CARD OF 'girdlelaw13.SeriesExact'. -/
def seriesExactCard : Claim7 := { stood := { row := seriesExactRow, standIns := [], harness := (true, "952068de93bc0a4f3954662b533ddca2c29d29a433155f520c416291aa6ac7d5"), looks := false }, kinds := [], alts := [], laidByText := true, laidKinds := [.data], laidTests := true, laidLooks := .later }
def SeriesExactCardSaid : Prop := Claim7.holds Tryz.pinned (.plain (OpenSpec.ofChange seriesExactSpec)) seriesExactCard

/-- THE TIED CARD OF 'girdlelaw13.SeriesTerms'. -/
def seriesTermsCard : Claim7 := { stood := { row := seriesTermsRow, standIns := [], harness := (true, "952068de93bc0a4f3954662b533ddca2c29d29a433155f520c416291aa6ac7d5"), looks := false }, kinds := [], alts := [], laidByText := true, laidKinds := [.data], laidTests := true, laidLooks := .later }
def SeriesTermsCardSaid : Prop := Claim7.holds Tryz.pinned (.plain (OpenSpec.ofChange seriesTermsSpec)) seriesTermsCard

/-- THE TIED CARD OF 'girdlelaw13.SeriesBack'. -/
def seriesBackCard : Claim7 := { stood := { row := seriesBackRow, standIns := [], harness := (true, "952068de93bc0a4f3954662b533ddca2c29d29a433155f520c416291aa6ac7d5"), looks := false }, kinds := [], alts := [], laidByText := true, laidKinds := [.data], laidTests := true, laidLooks := .later }
def SeriesBackCardSaid : Prop := Claim7.holds Tryz.pinned (.plain (OpenSpec.ofChange seriesBackSpec)) seriesBackCard

/-- THE TIED CARD OF 'girdlelaw13.SeriesHolds'. -/
def seriesHoldsCard : Claim7 := { stood := { row := seriesHoldsRow, standIns := [], harness := (true, "952068de93bc0a4f3954662b533ddca2c29d29a433155f520c416291aa6ac7d5"), looks := false }, kinds := [], alts := [], laidByText := true, laidKinds := [.data], laidTests := true, laidLooks := .later }
def SeriesHoldsCardSaid : Prop := Claim7.holds Tryz.pinned (.plain (OpenSpec.ofChange seriesHoldsSpec)) seriesHoldsCard

/-- THE TIED CARD OF 'girdlelaw13.SeriesTwice'. -/
def seriesTwiceCard : Claim7 := { stood := { row := seriesTwiceRow, standIns := [], harness := (true, "952068de93bc0a4f3954662b533ddca2c29d29a433155f520c416291aa6ac7d5"), looks := false }, kinds := [], alts := [], laidByText := true, laidKinds := [.data], laidTests := true, laidLooks := .later }
def SeriesTwiceCardSaid : Prop := Claim7.holds Tryz.pinned (.plain (OpenSpec.ofChange seriesTwiceSpec)) seriesTwiceCard

/-- THE TIED CARD OF 'girdlelaw13.SeriesAdds'. -/
def seriesAddsCard : Claim7 := { stood := { row := seriesAddsRow, standIns := [], harness := (true, "952068de93bc0a4f3954662b533ddca2c29d29a433155f520c416291aa6ac7d5"), looks := false }, kinds := [], alts := [], laidByText := true, laidKinds := [.data], laidTests := true, laidLooks := .later }
def SeriesAddsCardSaid : Prop := Claim7.holds Tryz.pinned (.plain (OpenSpec.ofChange seriesAddsSpec)) seriesAddsCard

/-- THE TIED CARD OF 'girdlelaw13.SeriesLaw'. -/
def seriesLawCard : Claim7 := { stood := { row := seriesLawRow, standIns := [], harness := (true, "952068de93bc0a4f3954662b533ddca2c29d29a433155f520c416291aa6ac7d5"), looks := false }, kinds := [], alts := [], laidByText := true, laidKinds := [.data], laidTests := true, laidLooks := .later }
def SeriesLawCardSaid : Prop := Claim7.holds Tryz.pinned (.plain (OpenSpec.ofChange seriesLawSpec)) seriesLawCard

/-- THE TIED CARD OF 'girdlelaw14.GrowHolds'. -/
def growHoldsCard : Claim7 := { stood := { row := growHoldsRow, standIns := [], harness := (true, "952068de93bc0a4f3954662b533ddca2c29d29a433155f520c416291aa6ac7d5"), looks := false }, kinds := [], alts := [], laidByText := true, laidKinds := [.data, .data, .pinned], laidTests := true, laidLooks := .later }
def GrowHoldsCardSaid : Prop := Claim7.holds Tryz.pinned (.plain (OpenSpec.ofChange growHoldsSpec)) growHoldsCard

/-- THE TIED CARD OF 'girdlelaw14.GrowBounds'. -/
def growBoundsCard : Claim7 := { stood := { row := growBoundsRow, standIns := [], harness := (true, "952068de93bc0a4f3954662b533ddca2c29d29a433155f520c416291aa6ac7d5"), looks := false }, kinds := [], alts := [], laidByText := true, laidKinds := [.data, .data, .pinned], laidTests := true, laidLooks := .later }
def GrowBoundsCardSaid : Prop := Claim7.holds Tryz.pinned (.plain (OpenSpec.ofChange growBoundsSpec)) growBoundsCard

/-- THE TIED CARD OF 'girdlelaw14.GrowRises'. -/
def growRisesCard : Claim7 := { stood := { row := growRisesRow, standIns := [], harness := (true, "952068de93bc0a4f3954662b533ddca2c29d29a433155f520c416291aa6ac7d5"), looks := false }, kinds := [], alts := [], laidByText := true, laidKinds := [.data, .data, .pinned], laidTests := true, laidLooks := .later }
def GrowRisesCardSaid : Prop := Claim7.holds Tryz.pinned (.plain (OpenSpec.ofChange growRisesSpec)) growRisesCard

/-- THE TIED CARD OF 'girdlelaw14.GrowRefuses'. -/
def growRefusesCard : Claim7 := { stood := { row := growRefusesRow, standIns := [], harness := (true, "952068de93bc0a4f3954662b533ddca2c29d29a433155f520c416291aa6ac7d5"), looks := false }, kinds := [], alts := [], laidByText := true, laidKinds := [.data, .data, .pinned], laidTests := true, laidLooks := .later }
def GrowRefusesCardSaid : Prop := Claim7.holds Tryz.pinned (.plain (OpenSpec.ofChange growRefusesSpec)) growRefusesCard

/-- THE TIED CARD OF 'girdlelaw14.GrowGroups'. -/
def growGroupsCard : Claim7 := { stood := { row := growGroupsRow, standIns := [], harness := (true, "952068de93bc0a4f3954662b533ddca2c29d29a433155f520c416291aa6ac7d5"), looks := false }, kinds := [], alts := [], laidByText := true, laidKinds := [.data, .data, .pinned], laidTests := true, laidLooks := .later }
def GrowGroupsCardSaid : Prop := Claim7.holds Tryz.pinned (.plain (OpenSpec.ofChange growGroupsSpec)) growGroupsCard

/-- THE SECOND FORM's CARD OF 'girdlelaw13.SeriesExact'. -/
def seriesExactUptoCard : Claim7 := { stood := { row := seriesExactUptoRow, standIns := [], harness := (true, "952068de93bc0a4f3954662b533ddca2c29d29a433155f520c416291aa6ac7d5"), looks := false }, kinds := [], alts := [], laidByText := true, laidKinds := [.data], laidTests := true, laidLooks := .later }
def SeriesExactUptoCardSaid : Prop := Claim7.holds Tryz.pinned (.plain (OpenSpec.upto seriesExactSpec)) seriesExactUptoCard

/-- THE SECOND FORM's CARD OF 'girdlelaw13.SeriesTerms'. -/
def seriesTermsUptoCard : Claim7 := { stood := { row := seriesTermsUptoRow, standIns := [], harness := (true, "952068de93bc0a4f3954662b533ddca2c29d29a433155f520c416291aa6ac7d5"), looks := false }, kinds := [], alts := [], laidByText := true, laidKinds := [.data], laidTests := true, laidLooks := .later }
def SeriesTermsUptoCardSaid : Prop := Claim7.holds Tryz.pinned (.plain (OpenSpec.upto seriesTermsSpec)) seriesTermsUptoCard

/-- THE SECOND FORM's CARD OF 'girdlelaw13.SeriesBack'. -/
def seriesBackUptoCard : Claim7 := { stood := { row := seriesBackUptoRow, standIns := [], harness := (true, "952068de93bc0a4f3954662b533ddca2c29d29a433155f520c416291aa6ac7d5"), looks := false }, kinds := [], alts := [], laidByText := true, laidKinds := [.data], laidTests := true, laidLooks := .later }
def SeriesBackUptoCardSaid : Prop := Claim7.holds Tryz.pinned (.plain (OpenSpec.upto seriesBackSpec)) seriesBackUptoCard

/-- THE SECOND FORM's CARD OF 'girdlelaw13.SeriesHolds'. -/
def seriesHoldsUptoCard : Claim7 := { stood := { row := seriesHoldsUptoRow, standIns := [], harness := (true, "952068de93bc0a4f3954662b533ddca2c29d29a433155f520c416291aa6ac7d5"), looks := false }, kinds := [], alts := [], laidByText := true, laidKinds := [.data], laidTests := true, laidLooks := .later }
def SeriesHoldsUptoCardSaid : Prop := Claim7.holds Tryz.pinned (.plain (OpenSpec.upto seriesHoldsSpec)) seriesHoldsUptoCard

/-- THE SECOND FORM's CARD OF 'girdlelaw13.SeriesTwice'. -/
def seriesTwiceUptoCard : Claim7 := { stood := { row := seriesTwiceUptoRow, standIns := [], harness := (true, "952068de93bc0a4f3954662b533ddca2c29d29a433155f520c416291aa6ac7d5"), looks := false }, kinds := [], alts := [], laidByText := true, laidKinds := [.data], laidTests := true, laidLooks := .later }
def SeriesTwiceUptoCardSaid : Prop := Claim7.holds Tryz.pinned (.plain (OpenSpec.upto seriesTwiceSpec)) seriesTwiceUptoCard

/-- THE SECOND FORM's CARD OF 'girdlelaw13.SeriesAdds'. -/
def seriesAddsUptoCard : Claim7 := { stood := { row := seriesAddsUptoRow, standIns := [], harness := (true, "952068de93bc0a4f3954662b533ddca2c29d29a433155f520c416291aa6ac7d5"), looks := false }, kinds := [], alts := [], laidByText := true, laidKinds := [.data], laidTests := true, laidLooks := .later }
def SeriesAddsUptoCardSaid : Prop := Claim7.holds Tryz.pinned (.plain (OpenSpec.upto seriesAddsSpec)) seriesAddsUptoCard

/-- THE SECOND FORM's CARD OF 'girdlelaw13.SeriesLaw'. -/
def seriesLawUptoCard : Claim7 := { stood := { row := seriesLawUptoRow, standIns := [], harness := (true, "952068de93bc0a4f3954662b533ddca2c29d29a433155f520c416291aa6ac7d5"), looks := false }, kinds := [], alts := [], laidByText := true, laidKinds := [.data], laidTests := true, laidLooks := .later }
def SeriesLawUptoCardSaid : Prop := Claim7.holds Tryz.pinned (.plain (OpenSpec.upto seriesLawSpec)) seriesLawUptoCard

/-- THE SECOND FORM's CARD OF 'girdlelaw14.GrowHolds'. -/
def growHoldsUptoCard : Claim7 := { stood := { row := growHoldsUptoRow, standIns := [], harness := (true, "952068de93bc0a4f3954662b533ddca2c29d29a433155f520c416291aa6ac7d5"), looks := false }, kinds := [], alts := [], laidByText := true, laidKinds := [.data, .data, .pinned], laidTests := true, laidLooks := .later }
def GrowHoldsUptoCardSaid : Prop := Claim7.holds Tryz.pinned (.plain (OpenSpec.upto growHoldsSpec)) growHoldsUptoCard

/-- THE SECOND FORM's CARD OF 'girdlelaw14.GrowBounds'. -/
def growBoundsUptoCard : Claim7 := { stood := { row := growBoundsUptoRow, standIns := [], harness := (true, "952068de93bc0a4f3954662b533ddca2c29d29a433155f520c416291aa6ac7d5"), looks := false }, kinds := [], alts := [], laidByText := true, laidKinds := [.data, .data, .pinned], laidTests := true, laidLooks := .later }
def GrowBoundsUptoCardSaid : Prop := Claim7.holds Tryz.pinned (.plain (OpenSpec.upto growBoundsSpec)) growBoundsUptoCard

/-- THE SECOND FORM's CARD OF 'girdlelaw14.GrowRises'. -/
def growRisesUptoCard : Claim7 := { stood := { row := growRisesUptoRow, standIns := [], harness := (true, "952068de93bc0a4f3954662b533ddca2c29d29a433155f520c416291aa6ac7d5"), looks := false }, kinds := [], alts := [], laidByText := true, laidKinds := [.data, .data, .pinned], laidTests := true, laidLooks := .later }
def GrowRisesUptoCardSaid : Prop := Claim7.holds Tryz.pinned (.plain (OpenSpec.upto growRisesSpec)) growRisesUptoCard

/-- THE SECOND FORM's CARD OF 'girdlelaw14.GrowRefuses'. -/
def growRefusesUptoCard : Claim7 := { stood := { row := growRefusesUptoRow, standIns := [], harness := (true, "952068de93bc0a4f3954662b533ddca2c29d29a433155f520c416291aa6ac7d5"), looks := false }, kinds := [], alts := [], laidByText := true, laidKinds := [.data, .data, .pinned], laidTests := true, laidLooks := .later }
def GrowRefusesUptoCardSaid : Prop := Claim7.holds Tryz.pinned (.plain (OpenSpec.upto growRefusesSpec)) growRefusesUptoCard

/-- THE SECOND FORM's CARD OF 'girdlelaw14.GrowGroups'. -/
def growGroupsUptoCard : Claim7 := { stood := { row := growGroupsUptoRow, standIns := [], harness := (true, "952068de93bc0a4f3954662b533ddca2c29d29a433155f520c416291aa6ac7d5"), looks := false }, kinds := [], alts := [], laidByText := true, laidKinds := [.data, .data, .pinned], laidTests := true, laidLooks := .later }
def GrowGroupsUptoCardSaid : Prop := Claim7.holds Tryz.pinned (.plain (OpenSpec.upto growGroupsSpec)) growGroupsUptoCard
end Rows
end Go.Proofs.YtoofmffmgdkinaaGreatDoor
