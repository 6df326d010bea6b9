/-
  DERIVED. GIVEN WITH THE SEED: THE CARDS: each row of YtngahgfppbjebaaDoorRows.lean that lists a variable, with what it lists TIED to the program's text (the seventh form; the later family's looks); each row that meets fmt, with fmt's text TOLD by the authors' own Lean function (tested against real Go, not proved from fmt's source: count such statements apart). THE CARD IS WHAT COUNTS. Prove the row's statement (the work); the ties are given (YtngahgfppbjebaaDoorTie.lean); close each card by the builder's one call (the guide's Derived/Test/ToyasCard.lean, 'card_holds'). Laid BY PROGRAM, IN A SANDBOX (cutbox-door.mjs). By AI agents, Wed Nov 11 2026. No macro, syntax, notation, axiom, sorry.
-/
import Derived.Test.YtngahgfppbjebaaDoorRows
import GoSem.ClaimSeven
namespace Go.Proofs.YtngahgfppbjebaaDoor
namespace Rows

/-- THE TIED CARD OF 'quietuslaw13.SlateRuns'. -/
def slateRunsCard : Claim7 := { stood := { row := slateRunsRow, standIns := [], harness := (true, "776428577816db96404a86fd8a19bba6a081cf10aa0ee90aeceb85ca7964e6e2"), looks := true }, kinds := [], alts := [], laidByText := true, laidKinds := [.data, .data, .data, .data, .pinned], laidTests := true, laidLooks := .later }
def SlateRunsCardSaid : Prop := Claim7.holds Tryd.pinned (.plain (OpenSpec.ofChange slateRunsSpec)) slateRunsCard

/-- THE TIED CARD OF 'quietuslaw13.SlateReads'. -/
def slateReadsCard : Claim7 := { stood := { row := slateReadsRow, standIns := [], harness := (true, "776428577816db96404a86fd8a19bba6a081cf10aa0ee90aeceb85ca7964e6e2"), looks := true }, kinds := [], alts := [], laidByText := true, laidKinds := [.data, .data, .data, .data, .pinned], laidTests := true, laidLooks := .later }
def SlateReadsCardSaid : Prop := Claim7.holds Tryd.pinned (.plain (OpenSpec.ofChange slateReadsSpec)) slateReadsCard

/-- THE TIED CARD OF 'quietuslaw13.SlatePlays'. -/
def slatePlaysCard : Claim7 := { stood := { row := slatePlaysRow, standIns := [], harness := (true, "776428577816db96404a86fd8a19bba6a081cf10aa0ee90aeceb85ca7964e6e2"), looks := true }, kinds := [], alts := [], laidByText := true, laidKinds := [.data, .data, .data, .data, .pinned], laidTests := true, laidLooks := .later }
def SlatePlaysCardSaid : Prop := Claim7.holds Tryd.pinned (.plain (OpenSpec.ofChange slatePlaysSpec)) slatePlaysCard

/-- THE TIED CARD OF 'quietuslaw13.SlateBack'. -/
def slateBackCard : Claim7 := { stood := { row := slateBackRow, standIns := [], harness := (true, "776428577816db96404a86fd8a19bba6a081cf10aa0ee90aeceb85ca7964e6e2"), looks := true }, kinds := [], alts := [], laidByText := true, laidKinds := [.data, .data, .data, .data, .pinned], laidTests := true, laidLooks := .later }
def SlateBackCardSaid : Prop := Claim7.holds Tryd.pinned (.plain (OpenSpec.ofChange slateBackSpec)) slateBackCard

/-- THE TIED CARD OF 'quietuslaw13.SlateCopies'. -/
def slateCopiesCard : Claim7 := { stood := { row := slateCopiesRow, standIns := [], harness := (true, "776428577816db96404a86fd8a19bba6a081cf10aa0ee90aeceb85ca7964e6e2"), looks := true }, kinds := [], alts := [], laidByText := true, laidKinds := [.data, .data, .data, .data, .pinned], laidTests := true, laidLooks := .later }
def SlateCopiesCardSaid : Prop := Claim7.holds Tryd.pinned (.plain (OpenSpec.ofChange slateCopiesSpec)) slateCopiesCard

/-- THE TIED CARD OF 'quietuslaw16.TextRuns'. -/
def textRunsCard : Claim7 := { stood := { row := textRunsRow, standIns := [], harness := (true, "776428577816db96404a86fd8a19bba6a081cf10aa0ee90aeceb85ca7964e6e2"), looks := true }, kinds := [], alts := [], laidByText := true, laidKinds := [.data, .data, .data, .data, .pinned], laidTests := true, laidLooks := .later }
def TextRunsCardSaid : Prop := Claim7.holds Tryd.pinned (.plain (OpenSpec.ofChange textRunsSpec)) textRunsCard

/-- THE TIED CARD OF 'quietuslaw16.TextTells'. -/
def textTellsCard : Claim7 := { stood := { row := textTellsRow, standIns := [], harness := (true, "776428577816db96404a86fd8a19bba6a081cf10aa0ee90aeceb85ca7964e6e2"), looks := true }, kinds := [], alts := [], laidByText := true, laidKinds := [.data, .data, .data, .data, .data, .pinned], laidTests := true, laidLooks := .later }
def TextTellsCardSaid : Prop := Claim7.holds Tryd.pinned (.plain (OpenSpec.ofChange textTellsSpec)) textTellsCard

/-- THE TIED CARD OF 'quietuslaw16.TextNear'. -/
def textNearCard : Claim7 := { stood := { row := textNearRow, standIns := [], harness := (true, "776428577816db96404a86fd8a19bba6a081cf10aa0ee90aeceb85ca7964e6e2"), looks := true }, kinds := [], alts := [], laidByText := true, laidKinds := [.data, .data, .data, .data, .data, .pinned], laidTests := true, laidLooks := .later }
def TextNearCardSaid : Prop := Claim7.holds Tryd.pinned (.plain (OpenSpec.ofChange textNearSpec)) textNearCard

/-- THE TIED CARD OF 'quietuslaw16.TextPrints'. -/
def textPrintsCard : Claim7 := { stood := { row := textPrintsRow, standIns := [], harness := (true, "776428577816db96404a86fd8a19bba6a081cf10aa0ee90aeceb85ca7964e6e2"), looks := true }, kinds := [], alts := [], laidByText := true, laidKinds := [.data, .data, .data, .data, .data, .pinned], laidTests := true, laidLooks := .later }
def TextPrintsCardSaid : Prop := Claim7.holds Tryd.pinned (.plain (OpenSpec.ofChange textPrintsSpec)) textPrintsCard

/-- THE TIED CARD OF 'quietuslaw16.TextBack'. -/
def textBackCard : Claim7 := { stood := { row := textBackRow, standIns := [], harness := (true, "776428577816db96404a86fd8a19bba6a081cf10aa0ee90aeceb85ca7964e6e2"), looks := true }, kinds := [], alts := [], laidByText := true, laidKinds := [.data, .data, .data, .data, .pinned], laidTests := true, laidLooks := .later }
def TextBackCardSaid : Prop := Claim7.holds Tryd.pinned (.plain (OpenSpec.ofChange textBackSpec)) textBackCard

/-- THE TIED CARD OF 'quietuslaw16.TextLoose'. -/
def textLooseCard : Claim7 := { stood := { row := textLooseRow, standIns := [], harness := (true, "776428577816db96404a86fd8a19bba6a081cf10aa0ee90aeceb85ca7964e6e2"), looks := true }, kinds := [], alts := [], laidByText := true, laidKinds := [.data, .data, .data, .data, .pinned], laidTests := true, laidLooks := .later }
def TextLooseCardSaid : Prop := Claim7.holds Tryd.pinned (.plain (OpenSpec.ofChange textLooseSpec)) textLooseCard

/-- THE TIED CARD OF 'quietuslaw16.TextPlaces'. -/
def textPlacesCard : Claim7 := { stood := { row := textPlacesRow, standIns := [], harness := (true, "776428577816db96404a86fd8a19bba6a081cf10aa0ee90aeceb85ca7964e6e2"), looks := true }, kinds := [], alts := [], laidByText := true, laidKinds := [.data, .data, .data, .data, .pinned], laidTests := true, laidLooks := .later }
def TextPlacesCardSaid : Prop := Claim7.holds Tryd.pinned (.plain (OpenSpec.ofChange textPlacesSpec)) textPlacesCard

/-- THE SECOND FORM's CARD OF 'quietuslaw13.SlateRuns'. -/
def slateRunsUptoCard : Claim7 := { stood := { row := slateRunsUptoRow, standIns := [], harness := (true, "776428577816db96404a86fd8a19bba6a081cf10aa0ee90aeceb85ca7964e6e2"), looks := true }, kinds := [], alts := [], laidByText := true, laidKinds := [.data, .data, .data, .data, .pinned], laidTests := true, laidLooks := .later }
def SlateRunsUptoCardSaid : Prop := Claim7.holds Tryd.pinned (.plain (OpenSpec.upto slateRunsSpec)) slateRunsUptoCard

/-- THE SECOND FORM's CARD OF 'quietuslaw13.SlateReads'. -/
def slateReadsUptoCard : Claim7 := { stood := { row := slateReadsUptoRow, standIns := [], harness := (true, "776428577816db96404a86fd8a19bba6a081cf10aa0ee90aeceb85ca7964e6e2"), looks := true }, kinds := [], alts := [], laidByText := true, laidKinds := [.data, .data, .data, .data, .pinned], laidTests := true, laidLooks := .later }
def SlateReadsUptoCardSaid : Prop := Claim7.holds Tryd.pinned (.plain (OpenSpec.upto slateReadsSpec)) slateReadsUptoCard

/-- THE SECOND FORM's CARD OF 'quietuslaw13.SlatePlays'. -/
def slatePlaysUptoCard : Claim7 := { stood := { row := slatePlaysUptoRow, standIns := [], harness := (true, "776428577816db96404a86fd8a19bba6a081cf10aa0ee90aeceb85ca7964e6e2"), looks := true }, kinds := [], alts := [], laidByText := true, laidKinds := [.data, .data, .data, .data, .pinned], laidTests := true, laidLooks := .later }
def SlatePlaysUptoCardSaid : Prop := Claim7.holds Tryd.pinned (.plain (OpenSpec.upto slatePlaysSpec)) slatePlaysUptoCard

/-- THE SECOND FORM's CARD OF 'quietuslaw13.SlateBack'. -/
def slateBackUptoCard : Claim7 := { stood := { row := slateBackUptoRow, standIns := [], harness := (true, "776428577816db96404a86fd8a19bba6a081cf10aa0ee90aeceb85ca7964e6e2"), looks := true }, kinds := [], alts := [], laidByText := true, laidKinds := [.data, .data, .data, .data, .pinned], laidTests := true, laidLooks := .later }
def SlateBackUptoCardSaid : Prop := Claim7.holds Tryd.pinned (.plain (OpenSpec.upto slateBackSpec)) slateBackUptoCard

/-- THE SECOND FORM's CARD OF 'quietuslaw13.SlateCopies'. -/
def slateCopiesUptoCard : Claim7 := { stood := { row := slateCopiesUptoRow, standIns := [], harness := (true, "776428577816db96404a86fd8a19bba6a081cf10aa0ee90aeceb85ca7964e6e2"), looks := true }, kinds := [], alts := [], laidByText := true, laidKinds := [.data, .data, .data, .data, .pinned], laidTests := true, laidLooks := .later }
def SlateCopiesUptoCardSaid : Prop := Claim7.holds Tryd.pinned (.plain (OpenSpec.upto slateCopiesSpec)) slateCopiesUptoCard

/-- THE SECOND FORM's CARD OF 'quietuslaw16.TextRuns'. -/
def textRunsUptoCard : Claim7 := { stood := { row := textRunsUptoRow, standIns := [], harness := (true, "776428577816db96404a86fd8a19bba6a081cf10aa0ee90aeceb85ca7964e6e2"), looks := true }, kinds := [], alts := [], laidByText := true, laidKinds := [.data, .data, .data, .data, .pinned], laidTests := true, laidLooks := .later }
def TextRunsUptoCardSaid : Prop := Claim7.holds Tryd.pinned (.plain (OpenSpec.upto textRunsSpec)) textRunsUptoCard

/-- THE SECOND FORM's CARD OF 'quietuslaw16.TextTells'. -/
def textTellsUptoCard : Claim7 := { stood := { row := textTellsUptoRow, standIns := [], harness := (true, "776428577816db96404a86fd8a19bba6a081cf10aa0ee90aeceb85ca7964e6e2"), looks := true }, kinds := [], alts := [], laidByText := true, laidKinds := [.data, .data, .data, .data, .data, .pinned], laidTests := true, laidLooks := .later }
def TextTellsUptoCardSaid : Prop := Claim7.holds Tryd.pinned (.plain (OpenSpec.upto textTellsSpec)) textTellsUptoCard

/-- THE SECOND FORM's CARD OF 'quietuslaw16.TextNear'. -/
def textNearUptoCard : Claim7 := { stood := { row := textNearUptoRow, standIns := [], harness := (true, "776428577816db96404a86fd8a19bba6a081cf10aa0ee90aeceb85ca7964e6e2"), looks := true }, kinds := [], alts := [], laidByText := true, laidKinds := [.data, .data, .data, .data, .data, .pinned], laidTests := true, laidLooks := .later }
def TextNearUptoCardSaid : Prop := Claim7.holds Tryd.pinned (.plain (OpenSpec.upto textNearSpec)) textNearUptoCard

/-- THE SECOND FORM's CARD OF 'quietuslaw16.TextPrints'. -/
def textPrintsUptoCard : Claim7 := { stood := { row := textPrintsUptoRow, standIns := [], harness := (true, "776428577816db96404a86fd8a19bba6a081cf10aa0ee90aeceb85ca7964e6e2"), looks := true }, kinds := [], alts := [], laidByText := true, laidKinds := [.data, .data, .data, .data, .data, .pinned], laidTests := true, laidLooks := .later }
def TextPrintsUptoCardSaid : Prop := Claim7.holds Tryd.pinned (.plain (OpenSpec.upto textPrintsSpec)) textPrintsUptoCard

/-- THE SECOND FORM's CARD OF 'quietuslaw16.TextBack'. -/
def textBackUptoCard : Claim7 := { stood := { row := textBackUptoRow, standIns := [], harness := (true, "776428577816db96404a86fd8a19bba6a081cf10aa0ee90aeceb85ca7964e6e2"), looks := true }, kinds := [], alts := [], laidByText := true, laidKinds := [.data, .data, .data, .data, .pinned], laidTests := true, laidLooks := .later }
def TextBackUptoCardSaid : Prop := Claim7.holds Tryd.pinned (.plain (OpenSpec.upto textBackSpec)) textBackUptoCard

/-- THE SECOND FORM's CARD OF 'quietuslaw16.TextLoose'. -/
def textLooseUptoCard : Claim7 := { stood := { row := textLooseUptoRow, standIns := [], harness := (true, "776428577816db96404a86fd8a19bba6a081cf10aa0ee90aeceb85ca7964e6e2"), looks := true }, kinds := [], alts := [], laidByText := true, laidKinds := [.data, .data, .data, .data, .pinned], laidTests := true, laidLooks := .later }
def TextLooseUptoCardSaid : Prop := Claim7.holds Tryd.pinned (.plain (OpenSpec.upto textLooseSpec)) textLooseUptoCard

/-- THE SECOND FORM's CARD OF 'quietuslaw16.TextPlaces'. -/
def textPlacesUptoCard : Claim7 := { stood := { row := textPlacesUptoRow, standIns := [], harness := (true, "776428577816db96404a86fd8a19bba6a081cf10aa0ee90aeceb85ca7964e6e2"), looks := true }, kinds := [], alts := [], laidByText := true, laidKinds := [.data, .data, .data, .data, .pinned], laidTests := true, laidLooks := .later }
def TextPlacesUptoCardSaid : Prop := Claim7.holds Tryd.pinned (.plain (OpenSpec.upto textPlacesSpec)) textPlacesUptoCard
end Rows
end Go.Proofs.YtngahgfppbjebaaDoor
