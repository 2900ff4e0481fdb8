/-
  DERIVED. GIVEN WITH THE SEED: THE CARDS: each row of YtojfepabmbnmnaaGreatDoorRows.lean that lists a variable, with what it lists TIED to the program's text (the seventh form; the later family's looks); each row that meets fmt, with fmt's text TOLD by the authors' own Lean function (tested against real Go, not proved from fmt's source: count such statements apart). THE CARD IS WHAT COUNTS. Prove the row's statement (the work); the ties are given (YtojfepabmbnmnaaGreatDoorTie.lean); close each card by the builder's one call (the guide's Derived/Test/ToyasCard.lean, 'card_holds'). Laid BY PROGRAM, IN A SANDBOX (cutbox-door.mjs). By AI agents, Wed Nov 11 2026. No macro, syntax, notation, axiom, sorry.
-/
import Derived.Test.YtojfepabmbnmnaaGreatDoorRows
import GoSem.ClaimSeven
namespace Go.Proofs.YtojfepabmbnmnaaGreatDoor
namespace Rows

/-- THE TIED CARD OF 'girdlelaw07.VecReckons'. -/
def vecReckonsCard : Claim7 := { stood := { row := vecReckonsRow, standIns := [], harness := (true, "f0f990b3228b3c6fb6abc87001e6aefe1e7fd0f526732186eedf387290d6a8bc"), looks := false }, kinds := [], alts := [], laidByText := true, laidKinds := [.data, .data, .pinned], laidTests := true, laidLooks := .later }
def VecReckonsCardSaid : Prop := Claim7.holds Tryz.pinned (.plain (OpenSpec.ofChange vecReckonsSpec)) vecReckonsCard

/-- THE TIED CARD OF 'girdlelaw07.VecScales'. -/
def vecScalesCard : Claim7 := { stood := { row := vecScalesRow, standIns := [], harness := (true, "f0f990b3228b3c6fb6abc87001e6aefe1e7fd0f526732186eedf387290d6a8bc"), looks := false }, kinds := [], alts := [], laidByText := true, laidKinds := [.data, .data, .pinned], laidTests := true, laidLooks := .later }
def VecScalesCardSaid : Prop := Claim7.holds Tryz.pinned (.plain (OpenSpec.ofChange vecScalesSpec)) vecScalesCard

/-- THE TIED CARD OF 'girdlelaw07.VecShapes'. -/
def vecShapesCard : Claim7 := { stood := { row := vecShapesRow, standIns := [], harness := (true, "f0f990b3228b3c6fb6abc87001e6aefe1e7fd0f526732186eedf387290d6a8bc"), looks := false }, kinds := [], alts := [], laidByText := true, laidKinds := [.data, .data, .pinned], laidTests := true, laidLooks := .later }
def VecShapesCardSaid : Prop := Claim7.holds Tryz.pinned (.plain (OpenSpec.ofChange vecShapesSpec)) vecShapesCard

/-- THE TIED CARD OF 'girdlelaw07.VecUnits'. -/
def vecUnitsCard : Claim7 := { stood := { row := vecUnitsRow, standIns := [], harness := (true, "f0f990b3228b3c6fb6abc87001e6aefe1e7fd0f526732186eedf387290d6a8bc"), looks := false }, kinds := [], alts := [], laidByText := true, laidKinds := [.data, .data, .pinned], laidTests := true, laidLooks := .later }
def VecUnitsCardSaid : Prop := Claim7.holds Tryz.pinned (.plain (OpenSpec.ofChange vecUnitsSpec)) vecUnitsCard

/-- THE TIED CARD OF 'girdlelaw07.VecHolds'. -/
def vecHoldsCard : Claim7 := { stood := { row := vecHoldsRow, standIns := [], harness := (true, "f0f990b3228b3c6fb6abc87001e6aefe1e7fd0f526732186eedf387290d6a8bc"), looks := false }, kinds := [], alts := [], laidByText := true, laidKinds := [.data, .data, .pinned], laidTests := true, laidLooks := .later }
def VecHoldsCardSaid : Prop := Claim7.holds Tryz.pinned (.plain (OpenSpec.ofChange vecHoldsSpec)) vecHoldsCard

/-- THE TIED CARD OF 'girdlelaw08.MatReckons'. -/
def matReckonsCard : Claim7 := { stood := { row := matReckonsRow, standIns := [], harness := (true, "f0f990b3228b3c6fb6abc87001e6aefe1e7fd0f526732186eedf387290d6a8bc"), looks := false }, kinds := [], alts := [], laidByText := true, laidKinds := [.data, .data, .pinned], laidTests := true, laidLooks := .later }
def MatReckonsCardSaid : Prop := Claim7.holds Tryz.pinned (.plain (OpenSpec.ofChange matReckonsSpec)) matReckonsCard

/-- THE TIED CARD OF 'girdlelaw08.MatHolds'. -/
def matHoldsCard : Claim7 := { stood := { row := matHoldsRow, standIns := [], harness := (true, "f0f990b3228b3c6fb6abc87001e6aefe1e7fd0f526732186eedf387290d6a8bc"), looks := false }, kinds := [], alts := [], laidByText := true, laidKinds := [.data, .data, .pinned], laidTests := true, laidLooks := .later }
def MatHoldsCardSaid : Prop := Claim7.holds Tryz.pinned (.plain (OpenSpec.ofChange matHoldsSpec)) matHoldsCard

/-- THE TIED CARD OF 'girdlelaw08.MatNorms'. -/
def matNormsCard : Claim7 := { stood := { row := matNormsRow, standIns := [], harness := (true, "f0f990b3228b3c6fb6abc87001e6aefe1e7fd0f526732186eedf387290d6a8bc"), looks := false }, kinds := [], alts := [], laidByText := true, laidKinds := [.data, .data, .pinned], laidTests := true, laidLooks := .later }
def MatNormsCardSaid : Prop := Claim7.holds Tryz.pinned (.plain (OpenSpec.ofChange matNormsSpec)) matNormsCard

/-- THE TIED CARD OF 'girdlelaw08.MatShapes'. -/
def matShapesCard : Claim7 := { stood := { row := matShapesRow, standIns := [], harness := (true, "f0f990b3228b3c6fb6abc87001e6aefe1e7fd0f526732186eedf387290d6a8bc"), looks := false }, kinds := [], alts := [], laidByText := true, laidKinds := [.data, .data, .pinned], laidTests := true, laidLooks := .later }
def MatShapesCardSaid : Prop := Claim7.holds Tryz.pinned (.plain (OpenSpec.ofChange matShapesSpec)) matShapesCard

/-- THE TIED CARD OF 'girdlelaw08.MatGroups'. -/
def matGroupsCard : Claim7 := { stood := { row := matGroupsRow, standIns := [], harness := (true, "f0f990b3228b3c6fb6abc87001e6aefe1e7fd0f526732186eedf387290d6a8bc"), looks := false }, kinds := [], alts := [], laidByText := true, laidKinds := [.data, .data, .pinned], laidTests := true, laidLooks := .later }
def MatGroupsCardSaid : Prop := Claim7.holds Tryz.pinned (.plain (OpenSpec.ofChange matGroupsSpec)) matGroupsCard

/-- THE SECOND FORM's CARD OF 'girdlelaw07.VecReckons'. -/
def vecReckonsUptoCard : Claim7 := { stood := { row := vecReckonsUptoRow, standIns := [], harness := (true, "f0f990b3228b3c6fb6abc87001e6aefe1e7fd0f526732186eedf387290d6a8bc"), looks := false }, kinds := [], alts := [], laidByText := true, laidKinds := [.data, .data, .pinned], laidTests := true, laidLooks := .later }
def VecReckonsUptoCardSaid : Prop := Claim7.holds Tryz.pinned (.plain (OpenSpec.upto vecReckonsSpec)) vecReckonsUptoCard

/-- THE SECOND FORM's CARD OF 'girdlelaw07.VecScales'. -/
def vecScalesUptoCard : Claim7 := { stood := { row := vecScalesUptoRow, standIns := [], harness := (true, "f0f990b3228b3c6fb6abc87001e6aefe1e7fd0f526732186eedf387290d6a8bc"), looks := false }, kinds := [], alts := [], laidByText := true, laidKinds := [.data, .data, .pinned], laidTests := true, laidLooks := .later }
def VecScalesUptoCardSaid : Prop := Claim7.holds Tryz.pinned (.plain (OpenSpec.upto vecScalesSpec)) vecScalesUptoCard

/-- THE SECOND FORM's CARD OF 'girdlelaw07.VecShapes'. -/
def vecShapesUptoCard : Claim7 := { stood := { row := vecShapesUptoRow, standIns := [], harness := (true, "f0f990b3228b3c6fb6abc87001e6aefe1e7fd0f526732186eedf387290d6a8bc"), looks := false }, kinds := [], alts := [], laidByText := true, laidKinds := [.data, .data, .pinned], laidTests := true, laidLooks := .later }
def VecShapesUptoCardSaid : Prop := Claim7.holds Tryz.pinned (.plain (OpenSpec.upto vecShapesSpec)) vecShapesUptoCard

/-- THE SECOND FORM's CARD OF 'girdlelaw07.VecUnits'. -/
def vecUnitsUptoCard : Claim7 := { stood := { row := vecUnitsUptoRow, standIns := [], harness := (true, "f0f990b3228b3c6fb6abc87001e6aefe1e7fd0f526732186eedf387290d6a8bc"), looks := false }, kinds := [], alts := [], laidByText := true, laidKinds := [.data, .data, .pinned], laidTests := true, laidLooks := .later }
def VecUnitsUptoCardSaid : Prop := Claim7.holds Tryz.pinned (.plain (OpenSpec.upto vecUnitsSpec)) vecUnitsUptoCard

/-- THE SECOND FORM's CARD OF 'girdlelaw07.VecHolds'. -/
def vecHoldsUptoCard : Claim7 := { stood := { row := vecHoldsUptoRow, standIns := [], harness := (true, "f0f990b3228b3c6fb6abc87001e6aefe1e7fd0f526732186eedf387290d6a8bc"), looks := false }, kinds := [], alts := [], laidByText := true, laidKinds := [.data, .data, .pinned], laidTests := true, laidLooks := .later }
def VecHoldsUptoCardSaid : Prop := Claim7.holds Tryz.pinned (.plain (OpenSpec.upto vecHoldsSpec)) vecHoldsUptoCard

/-- THE SECOND FORM's CARD OF 'girdlelaw08.MatReckons'. -/
def matReckonsUptoCard : Claim7 := { stood := { row := matReckonsUptoRow, standIns := [], harness := (true, "f0f990b3228b3c6fb6abc87001e6aefe1e7fd0f526732186eedf387290d6a8bc"), looks := false }, kinds := [], alts := [], laidByText := true, laidKinds := [.data, .data, .pinned], laidTests := true, laidLooks := .later }
def MatReckonsUptoCardSaid : Prop := Claim7.holds Tryz.pinned (.plain (OpenSpec.upto matReckonsSpec)) matReckonsUptoCard

/-- THE SECOND FORM's CARD OF 'girdlelaw08.MatHolds'. -/
def matHoldsUptoCard : Claim7 := { stood := { row := matHoldsUptoRow, standIns := [], harness := (true, "f0f990b3228b3c6fb6abc87001e6aefe1e7fd0f526732186eedf387290d6a8bc"), looks := false }, kinds := [], alts := [], laidByText := true, laidKinds := [.data, .data, .pinned], laidTests := true, laidLooks := .later }
def MatHoldsUptoCardSaid : Prop := Claim7.holds Tryz.pinned (.plain (OpenSpec.upto matHoldsSpec)) matHoldsUptoCard

/-- THE SECOND FORM's CARD OF 'girdlelaw08.MatNorms'. -/
def matNormsUptoCard : Claim7 := { stood := { row := matNormsUptoRow, standIns := [], harness := (true, "f0f990b3228b3c6fb6abc87001e6aefe1e7fd0f526732186eedf387290d6a8bc"), looks := false }, kinds := [], alts := [], laidByText := true, laidKinds := [.data, .data, .pinned], laidTests := true, laidLooks := .later }
def MatNormsUptoCardSaid : Prop := Claim7.holds Tryz.pinned (.plain (OpenSpec.upto matNormsSpec)) matNormsUptoCard

/-- THE SECOND FORM's CARD OF 'girdlelaw08.MatShapes'. -/
def matShapesUptoCard : Claim7 := { stood := { row := matShapesUptoRow, standIns := [], harness := (true, "f0f990b3228b3c6fb6abc87001e6aefe1e7fd0f526732186eedf387290d6a8bc"), looks := false }, kinds := [], alts := [], laidByText := true, laidKinds := [.data, .data, .pinned], laidTests := true, laidLooks := .later }
def MatShapesUptoCardSaid : Prop := Claim7.holds Tryz.pinned (.plain (OpenSpec.upto matShapesSpec)) matShapesUptoCard

/-- THE SECOND FORM's CARD OF 'girdlelaw08.MatGroups'. -/
def matGroupsUptoCard : Claim7 := { stood := { row := matGroupsUptoRow, standIns := [], harness := (true, "f0f990b3228b3c6fb6abc87001e6aefe1e7fd0f526732186eedf387290d6a8bc"), looks := false }, kinds := [], alts := [], laidByText := true, laidKinds := [.data, .data, .pinned], laidTests := true, laidLooks := .later }
def MatGroupsUptoCardSaid : Prop := Claim7.holds Tryz.pinned (.plain (OpenSpec.upto matGroupsSpec)) matGroupsUptoCard
end Rows
end Go.Proofs.YtojfepabmbnmnaaGreatDoor
