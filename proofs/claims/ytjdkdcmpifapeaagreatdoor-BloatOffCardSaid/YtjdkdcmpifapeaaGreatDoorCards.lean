/-
  DERIVED. GIVEN WITH THE SEED: THE CARDS: each row of YtjdkdcmpifapeaaGreatDoorRows.lean that lists a variable, with what it lists TIED to the program's text (the seventh form; the later family's looks); each row that meets fmt, with fmt's text TOLD by the authors' own Lean function (tested against real Go, not proved from fmt's source: count such statements apart). THE CARD IS WHAT COUNTS. Prove the row's statement (the work); the ties are given (YtjdkdcmpifapeaaGreatDoorTie.lean); close each card by the builder's one call (the guide's Derived/Test/ToyasCard.lean, 'card_holds'). Laid BY PROGRAM, IN A SANDBOX (cutbox-door.mjs). By AI agents, Wed Nov 11 2026. No macro, syntax, notation, axiom, sorry.
-/
import Derived.Test.YtjdkdcmpifapeaaGreatDoorRows
import GoSem.ClaimSeven
namespace Go.Proofs.YtjdkdcmpifapeaaGreatDoor
namespace Rows

/-- THE TIED CARD OF 'girdlelaw13.SeriesExact'. -/
def seriesExactCard : Claim7 := { stood := { row := seriesExactRow, standIns := [], harness := (true, "930a02caedf351908d63a95978cc4b38f397bb830bebcb2ced617900109ed105"), looks := false }, kinds := [], alts := [], laidByText := true, laidKinds := [.data], laidTests := true, laidLooks := .later }
def SeriesExactCardSaid : Prop := Claim7.holds Tryz.pinned (.plain (OpenSpec.ofChange seriesExactSpec)) seriesExactCard

/-- THE TIED CARD OF 'girdlelaw13.SeriesHolds'. -/
def seriesHoldsCard : Claim7 := { stood := { row := seriesHoldsRow, standIns := [], harness := (true, "930a02caedf351908d63a95978cc4b38f397bb830bebcb2ced617900109ed105"), looks := false }, kinds := [], alts := [], laidByText := true, laidKinds := [.data], laidTests := true, laidLooks := .later }
def SeriesHoldsCardSaid : Prop := Claim7.holds Tryz.pinned (.plain (OpenSpec.ofChange seriesHoldsSpec)) seriesHoldsCard

/-- THE TIED CARD OF 'girdlelaw13.SeriesAdds'. -/
def seriesAddsCard : Claim7 := { stood := { row := seriesAddsRow, standIns := [], harness := (true, "930a02caedf351908d63a95978cc4b38f397bb830bebcb2ced617900109ed105"), looks := false }, kinds := [], alts := [], laidByText := true, laidKinds := [.data], laidTests := true, laidLooks := .later }
def SeriesAddsCardSaid : Prop := Claim7.holds Tryz.pinned (.plain (OpenSpec.ofChange seriesAddsSpec)) seriesAddsCard

/-- THE TIED CARD OF 'girdlelaw19.BloatOff'. -/
def bloatOffCard : Claim7 := { stood := { row := bloatOffRow, standIns := [], harness := (true, "930a02caedf351908d63a95978cc4b38f397bb830bebcb2ced617900109ed105"), looks := false }, kinds := [], alts := [], laidByText := true, laidKinds := [.data], laidTests := true, laidLooks := .later }
def BloatOffCardSaid : Prop := Claim7.holds Tryz.pinned (.plain (OpenSpec.ofChange bloatOffSpec)) bloatOffCard

/-- THE TIED CARD OF 'girdlelaw21.ReachTruth'. -/
def reachTruthCard : Claim7 := { stood := { row := reachTruthRow, standIns := [], harness := (true, "930a02caedf351908d63a95978cc4b38f397bb830bebcb2ced617900109ed105"), looks := false }, kinds := [], alts := [], laidByText := true, laidKinds := [.data], laidTests := true, laidLooks := .later }
def ReachTruthCardSaid : Prop := Claim7.holds Tryz.pinned (.plain (OpenSpec.ofChange reachTruthSpec)) reachTruthCard

/-- THE TIED CARD OF 'girdlelaw20.FlowRefuses'. -/
def flowRefusesCard : Claim7 := { stood := { row := flowRefusesRow, standIns := [], harness := (true, "930a02caedf351908d63a95978cc4b38f397bb830bebcb2ced617900109ed105"), looks := false }, kinds := [], alts := [], laidByText := true, laidKinds := [.data], laidTests := true, laidLooks := .later }
def FlowRefusesCardSaid : Prop := Claim7.holds Tryz.pinned (.plain (OpenSpec.ofChange flowRefusesSpec)) flowRefusesCard

/-- THE TIED CARD OF 'girdlelaw20.FlowBegins'. -/
def flowBeginsCard : Claim7 := { stood := { row := flowBeginsRow, standIns := [], harness := (true, "930a02caedf351908d63a95978cc4b38f397bb830bebcb2ced617900109ed105"), looks := false }, kinds := [], alts := [], laidByText := true, laidKinds := [.data], laidTests := true, laidLooks := .later }
def FlowBeginsCardSaid : Prop := Claim7.holds Tryz.pinned (.plain (OpenSpec.ofChange flowBeginsSpec)) flowBeginsCard

/-- THE TIED CARD OF 'girdlelaw20.FlowTruth'. -/
def flowTruthCard : Claim7 := { stood := { row := flowTruthRow, standIns := [], harness := (true, "930a02caedf351908d63a95978cc4b38f397bb830bebcb2ced617900109ed105"), looks := false }, kinds := [], alts := [], laidByText := true, laidKinds := [.data], laidTests := true, laidLooks := .later }
def FlowTruthCardSaid : Prop := Claim7.holds Tryz.pinned (.plain (OpenSpec.ofChange flowTruthSpec)) flowTruthCard

/-- THE TIED CARD OF 'girdlelaw24.HuntCorners'. -/
def huntCornersCard : Claim7 := { stood := { row := huntCornersRow, standIns := [], harness := (true, "930a02caedf351908d63a95978cc4b38f397bb830bebcb2ced617900109ed105"), looks := false }, kinds := [], alts := [], laidByText := true, laidKinds := [.data, .data, .pinned], laidTests := true, laidLooks := .later }
def HuntCornersCardSaid : Prop := Claim7.holds Tryz.pinned (.plain (OpenSpec.ofChange huntCornersSpec)) huntCornersCard

/-- THE TIED CARD OF 'girdlelaw23.DecideKeeps'. -/
def decideKeepsCard : Claim7 := { stood := { row := decideKeepsRow, standIns := [], harness := (true, "930a02caedf351908d63a95978cc4b38f397bb830bebcb2ced617900109ed105"), looks := false }, kinds := [], alts := [], laidByText := true, laidKinds := [.data], laidTests := true, laidLooks := .later }
def DecideKeepsCardSaid : Prop := Claim7.holds Tryz.pinned (.plain (OpenSpec.ofChange decideKeepsSpec)) decideKeepsCard

/-- THE TIED CARD OF 'girdlelaw23.DecideFar'. -/
def decideFarCard : Claim7 := { stood := { row := decideFarRow, standIns := [], harness := (true, "930a02caedf351908d63a95978cc4b38f397bb830bebcb2ced617900109ed105"), looks := false }, kinds := [], alts := [], laidByText := true, laidKinds := [.data], laidTests := true, laidLooks := .later }
def DecideFarCardSaid : Prop := Claim7.holds Tryz.pinned (.plain (OpenSpec.ofChange decideFarSpec)) decideFarCard

/-- THE SECOND FORM's CARD OF 'girdlelaw13.SeriesExact'. -/
def seriesExactUptoCard : Claim7 := { stood := { row := seriesExactUptoRow, standIns := [], harness := (true, "930a02caedf351908d63a95978cc4b38f397bb830bebcb2ced617900109ed105"), looks := false }, kinds := [], alts := [], laidByText := true, laidKinds := [.data], laidTests := true, laidLooks := .later }
def SeriesExactUptoCardSaid : Prop := Claim7.holds Tryz.pinned (.plain (OpenSpec.upto seriesExactSpec)) seriesExactUptoCard

/-- THE SECOND FORM's CARD OF 'girdlelaw13.SeriesHolds'. -/
def seriesHoldsUptoCard : Claim7 := { stood := { row := seriesHoldsUptoRow, standIns := [], harness := (true, "930a02caedf351908d63a95978cc4b38f397bb830bebcb2ced617900109ed105"), looks := false }, kinds := [], alts := [], laidByText := true, laidKinds := [.data], laidTests := true, laidLooks := .later }
def SeriesHoldsUptoCardSaid : Prop := Claim7.holds Tryz.pinned (.plain (OpenSpec.upto seriesHoldsSpec)) seriesHoldsUptoCard

/-- THE SECOND FORM's CARD OF 'girdlelaw13.SeriesAdds'. -/
def seriesAddsUptoCard : Claim7 := { stood := { row := seriesAddsUptoRow, standIns := [], harness := (true, "930a02caedf351908d63a95978cc4b38f397bb830bebcb2ced617900109ed105"), looks := false }, kinds := [], alts := [], laidByText := true, laidKinds := [.data], laidTests := true, laidLooks := .later }
def SeriesAddsUptoCardSaid : Prop := Claim7.holds Tryz.pinned (.plain (OpenSpec.upto seriesAddsSpec)) seriesAddsUptoCard

/-- THE SECOND FORM's CARD OF 'girdlelaw19.BloatOff'. -/
def bloatOffUptoCard : Claim7 := { stood := { row := bloatOffUptoRow, standIns := [], harness := (true, "930a02caedf351908d63a95978cc4b38f397bb830bebcb2ced617900109ed105"), looks := false }, kinds := [], alts := [], laidByText := true, laidKinds := [.data], laidTests := true, laidLooks := .later }
def BloatOffUptoCardSaid : Prop := Claim7.holds Tryz.pinned (.plain (OpenSpec.upto bloatOffSpec)) bloatOffUptoCard

/-- THE SECOND FORM's CARD OF 'girdlelaw21.ReachTruth'. -/
def reachTruthUptoCard : Claim7 := { stood := { row := reachTruthUptoRow, standIns := [], harness := (true, "930a02caedf351908d63a95978cc4b38f397bb830bebcb2ced617900109ed105"), looks := false }, kinds := [], alts := [], laidByText := true, laidKinds := [.data], laidTests := true, laidLooks := .later }
def ReachTruthUptoCardSaid : Prop := Claim7.holds Tryz.pinned (.plain (OpenSpec.upto reachTruthSpec)) reachTruthUptoCard

/-- THE SECOND FORM's CARD OF 'girdlelaw20.FlowRefuses'. -/
def flowRefusesUptoCard : Claim7 := { stood := { row := flowRefusesUptoRow, standIns := [], harness := (true, "930a02caedf351908d63a95978cc4b38f397bb830bebcb2ced617900109ed105"), looks := false }, kinds := [], alts := [], laidByText := true, laidKinds := [.data], laidTests := true, laidLooks := .later }
def FlowRefusesUptoCardSaid : Prop := Claim7.holds Tryz.pinned (.plain (OpenSpec.upto flowRefusesSpec)) flowRefusesUptoCard

/-- THE SECOND FORM's CARD OF 'girdlelaw20.FlowBegins'. -/
def flowBeginsUptoCard : Claim7 := { stood := { row := flowBeginsUptoRow, standIns := [], harness := (true, "930a02caedf351908d63a95978cc4b38f397bb830bebcb2ced617900109ed105"), looks := false }, kinds := [], alts := [], laidByText := true, laidKinds := [.data], laidTests := true, laidLooks := .later }
def FlowBeginsUptoCardSaid : Prop := Claim7.holds Tryz.pinned (.plain (OpenSpec.upto flowBeginsSpec)) flowBeginsUptoCard

/-- THE SECOND FORM's CARD OF 'girdlelaw20.FlowTruth'. -/
def flowTruthUptoCard : Claim7 := { stood := { row := flowTruthUptoRow, standIns := [], harness := (true, "930a02caedf351908d63a95978cc4b38f397bb830bebcb2ced617900109ed105"), looks := false }, kinds := [], alts := [], laidByText := true, laidKinds := [.data], laidTests := true, laidLooks := .later }
def FlowTruthUptoCardSaid : Prop := Claim7.holds Tryz.pinned (.plain (OpenSpec.upto flowTruthSpec)) flowTruthUptoCard

/-- THE SECOND FORM's CARD OF 'girdlelaw24.HuntCorners'. -/
def huntCornersUptoCard : Claim7 := { stood := { row := huntCornersUptoRow, standIns := [], harness := (true, "930a02caedf351908d63a95978cc4b38f397bb830bebcb2ced617900109ed105"), looks := false }, kinds := [], alts := [], laidByText := true, laidKinds := [.data, .data, .pinned], laidTests := true, laidLooks := .later }
def HuntCornersUptoCardSaid : Prop := Claim7.holds Tryz.pinned (.plain (OpenSpec.upto huntCornersSpec)) huntCornersUptoCard

/-- THE SECOND FORM's CARD OF 'girdlelaw23.DecideKeeps'. -/
def decideKeepsUptoCard : Claim7 := { stood := { row := decideKeepsUptoRow, standIns := [], harness := (true, "930a02caedf351908d63a95978cc4b38f397bb830bebcb2ced617900109ed105"), looks := false }, kinds := [], alts := [], laidByText := true, laidKinds := [.data], laidTests := true, laidLooks := .later }
def DecideKeepsUptoCardSaid : Prop := Claim7.holds Tryz.pinned (.plain (OpenSpec.upto decideKeepsSpec)) decideKeepsUptoCard

/-- THE SECOND FORM's CARD OF 'girdlelaw23.DecideFar'. -/
def decideFarUptoCard : Claim7 := { stood := { row := decideFarUptoRow, standIns := [], harness := (true, "930a02caedf351908d63a95978cc4b38f397bb830bebcb2ced617900109ed105"), looks := false }, kinds := [], alts := [], laidByText := true, laidKinds := [.data], laidTests := true, laidLooks := .later }
def DecideFarUptoCardSaid : Prop := Claim7.holds Tryz.pinned (.plain (OpenSpec.upto decideFarSpec)) decideFarUptoCard
end Rows
end Go.Proofs.YtjdkdcmpifapeaaGreatDoor
