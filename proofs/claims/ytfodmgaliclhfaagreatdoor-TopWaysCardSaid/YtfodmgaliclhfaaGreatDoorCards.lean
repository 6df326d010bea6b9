/-
  DERIVED. GIVEN WITH THE SEED: THE CARDS: each row of YtfodmgaliclhfaaGreatDoorRows.lean that lists a variable, with what it lists TIED to the program's text (the seventh form; the later family's looks); each row that meets fmt, with fmt's text TOLD by the authors' own Lean function (tested against real Go, not proved from fmt's source: count such statements apart). THE CARD IS WHAT COUNTS. Prove the row's statement (the work); the ties are given (YtfodmgaliclhfaaGreatDoorTie.lean); close each card by the builder's one call (the guide's Derived/Test/ToyasCard.lean, 'card_holds'). Laid BY PROGRAM, IN A SANDBOX (cutbox-door.mjs). By AI agents, Wed Nov 11 2026. No macro, syntax, notation, axiom, sorry.
-/
import Derived.Test.YtfodmgaliclhfaaGreatDoorRows
import GoSem.ClaimSeven
namespace Go.Proofs.YtfodmgaliclhfaaGreatDoor
namespace Rows

/-- THE TIED CARD OF 'quietustop.TopPairs'. -/
def topPairsCard : Claim7 := { stood := { row := topPairsRow, standIns := [], harness := (true, "39affd619ac4790e87a01e207e2384ec2e227c6ef47645c173345eeb54b6a67c"), looks := true }, kinds := [], alts := [], laidByText := true, laidKinds := [.data, .data, .data], laidTests := true, laidLooks := .later }
def TopPairsCardSaid : Prop := Claim7.holds Tryz.pinned (.plain (OpenSpec.ofChange topPairsSpec)) topPairsCard

/-- THE TIED CARD OF 'quietustop.TopCounter'. -/
def topCounterCard : Claim7 := { stood := { row := topCounterRow, standIns := [], harness := (true, "39affd619ac4790e87a01e207e2384ec2e227c6ef47645c173345eeb54b6a67c"), looks := true }, kinds := [], alts := [], laidByText := true, laidKinds := [.data, .data, .data], laidTests := true, laidLooks := .later }
def TopCounterCardSaid : Prop := Claim7.holds Tryz.pinned (.plain (OpenSpec.ofChange topCounterSpec)) topCounterCard

/-- THE TIED CARD OF 'quietustop.TopWays'. -/
def topWaysCard : Claim7 := { stood := { row := topWaysRow, standIns := [], harness := (true, "39affd619ac4790e87a01e207e2384ec2e227c6ef47645c173345eeb54b6a67c"), looks := true }, kinds := [], alts := [], laidByText := true, laidKinds := [.data, .data, .data], laidTests := true, laidLooks := .later }
def TopWaysCardSaid : Prop := Claim7.holds Tryz.pinned (.plain (OpenSpec.ofChange topWaysSpec)) topWaysCard

/-- THE TIED CARD OF 'quietustop.TopObjects'. -/
def topObjectsCard : Claim7 := { stood := { row := topObjectsRow, standIns := [], harness := (true, "39affd619ac4790e87a01e207e2384ec2e227c6ef47645c173345eeb54b6a67c"), looks := true }, kinds := [], alts := [], laidByText := true, laidKinds := [.data, .data, .data], laidTests := true, laidLooks := .later }
def TopObjectsCardSaid : Prop := Claim7.holds Tryz.pinned (.plain (OpenSpec.ofChange topObjectsSpec)) topObjectsCard

/-- THE TIED CARD OF 'quietustop.TopGoes'. -/
def topGoesCard : Claim7 := { stood := { row := topGoesRow, standIns := [], harness := (true, "39affd619ac4790e87a01e207e2384ec2e227c6ef47645c173345eeb54b6a67c"), looks := true }, kinds := [], alts := [], laidByText := true, laidKinds := [.data, .data, .data], laidTests := true, laidLooks := .later }
def TopGoesCardSaid : Prop := Claim7.holds Tryz.pinned (.plain (OpenSpec.ofChange topGoesSpec)) topGoesCard

/-- THE SECOND FORM's CARD OF 'quietustop.TopPairs'. -/
def topPairsUptoCard : Claim7 := { stood := { row := topPairsUptoRow, standIns := [], harness := (true, "39affd619ac4790e87a01e207e2384ec2e227c6ef47645c173345eeb54b6a67c"), looks := true }, kinds := [], alts := [], laidByText := true, laidKinds := [.data, .data, .data], laidTests := true, laidLooks := .later }
def TopPairsUptoCardSaid : Prop := Claim7.holds Tryz.pinned (.plain (OpenSpec.upto topPairsSpec)) topPairsUptoCard

/-- THE SECOND FORM's CARD OF 'quietustop.TopCounter'. -/
def topCounterUptoCard : Claim7 := { stood := { row := topCounterUptoRow, standIns := [], harness := (true, "39affd619ac4790e87a01e207e2384ec2e227c6ef47645c173345eeb54b6a67c"), looks := true }, kinds := [], alts := [], laidByText := true, laidKinds := [.data, .data, .data], laidTests := true, laidLooks := .later }
def TopCounterUptoCardSaid : Prop := Claim7.holds Tryz.pinned (.plain (OpenSpec.upto topCounterSpec)) topCounterUptoCard

/-- THE SECOND FORM's CARD OF 'quietustop.TopWays'. -/
def topWaysUptoCard : Claim7 := { stood := { row := topWaysUptoRow, standIns := [], harness := (true, "39affd619ac4790e87a01e207e2384ec2e227c6ef47645c173345eeb54b6a67c"), looks := true }, kinds := [], alts := [], laidByText := true, laidKinds := [.data, .data, .data], laidTests := true, laidLooks := .later }
def TopWaysUptoCardSaid : Prop := Claim7.holds Tryz.pinned (.plain (OpenSpec.upto topWaysSpec)) topWaysUptoCard

/-- THE SECOND FORM's CARD OF 'quietustop.TopObjects'. -/
def topObjectsUptoCard : Claim7 := { stood := { row := topObjectsUptoRow, standIns := [], harness := (true, "39affd619ac4790e87a01e207e2384ec2e227c6ef47645c173345eeb54b6a67c"), looks := true }, kinds := [], alts := [], laidByText := true, laidKinds := [.data, .data, .data], laidTests := true, laidLooks := .later }
def TopObjectsUptoCardSaid : Prop := Claim7.holds Tryz.pinned (.plain (OpenSpec.upto topObjectsSpec)) topObjectsUptoCard

/-- THE SECOND FORM's CARD OF 'quietustop.TopGoes'. -/
def topGoesUptoCard : Claim7 := { stood := { row := topGoesUptoRow, standIns := [], harness := (true, "39affd619ac4790e87a01e207e2384ec2e227c6ef47645c173345eeb54b6a67c"), looks := true }, kinds := [], alts := [], laidByText := true, laidKinds := [.data, .data, .data], laidTests := true, laidLooks := .later }
def TopGoesUptoCardSaid : Prop := Claim7.holds Tryz.pinned (.plain (OpenSpec.upto topGoesSpec)) topGoesUptoCard
end Rows
end Go.Proofs.YtfodmgaliclhfaaGreatDoor
