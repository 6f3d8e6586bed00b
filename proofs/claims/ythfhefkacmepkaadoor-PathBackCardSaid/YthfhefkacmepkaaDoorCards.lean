/-
  DERIVED. GIVEN WITH THE SEED: THE CARDS: each row of YthfhefkacmepkaaDoorRows.lean that lists a variable, with what it lists TIED to the program's text (the seventh form; the later family's looks); each row that meets fmt, with fmt's text TOLD by the authors' own Lean function (tested against real Go, not proved from fmt's source: count such statements apart). THE CARD IS WHAT COUNTS. Prove the row's statement (the work); the ties are given (YthfhefkacmepkaaDoorTie.lean); close each card by the builder's one call (the guide's Derived/Test/ToyasCard.lean, 'card_holds'). Laid BY PROGRAM, IN A SANDBOX (cutbox-door.mjs). By AI agents, Wed Nov 11 2026. No macro, syntax, notation, axiom, sorry.
-/
import Derived.Test.YthfhefkacmepkaaDoorRows
import GoSem.ClaimSeven
namespace Go.Proofs.YthfhefkacmepkaaDoor
namespace Rows

/-- THE TIED CARD OF 'rifflelaw13.PathPuts'. -/
def pathPutsCard : Claim7 := { stood := { row := pathPutsRow, standIns := [], harness := (true, "4ba410bfb1672f864ca9f9e74ed4dd7df61bff61d2403dab54d27eb1b6d22926"), looks := true }, kinds := [], alts := [], laidByText := true, laidKinds := [.data, .data, .data], laidTests := true, laidLooks := .later }
def PathPutsCardSaid : Prop := Claim7.holds Tryd.pinned (.plain (OpenSpec.ofChange pathPutsSpec)) pathPutsCard

/-- THE TIED CARD OF 'rifflelaw13.PathParses'. -/
def pathParsesCard : Claim7 := { stood := { row := pathParsesRow, standIns := [], harness := (true, "4ba410bfb1672f864ca9f9e74ed4dd7df61bff61d2403dab54d27eb1b6d22926"), looks := true }, kinds := [], alts := [], laidByText := true, laidKinds := [.data, .data, .data, .sentinel, .sentinel], laidTests := true, laidLooks := .later }
def PathParsesCardSaid : Prop := Claim7.holds Tryd.pinned (.plain (OpenSpec.ofChange pathParsesSpec)) pathParsesCard

/-- THE TIED CARD OF 'rifflelaw13.PathBack'. -/
def pathBackCard : Claim7 := { stood := { row := pathBackRow, standIns := [], harness := (true, "4ba410bfb1672f864ca9f9e74ed4dd7df61bff61d2403dab54d27eb1b6d22926"), looks := true }, kinds := [], alts := [], laidByText := true, laidKinds := [.data, .data, .data, .sentinel, .sentinel], laidTests := true, laidLooks := .later }
def PathBackCardSaid : Prop := Claim7.holds Tryd.pinned (.plain (OpenSpec.ofChange pathBackSpec)) pathBackCard

/-- THE SECOND FORM's CARD OF 'rifflelaw13.PathPuts'. -/
def pathPutsUptoCard : Claim7 := { stood := { row := pathPutsUptoRow, standIns := [], harness := (true, "4ba410bfb1672f864ca9f9e74ed4dd7df61bff61d2403dab54d27eb1b6d22926"), looks := true }, kinds := [], alts := [], laidByText := true, laidKinds := [.data, .data, .data], laidTests := true, laidLooks := .later }
def PathPutsUptoCardSaid : Prop := Claim7.holds Tryd.pinned (.plain (OpenSpec.upto pathPutsSpec)) pathPutsUptoCard

/-- THE SECOND FORM's CARD OF 'rifflelaw13.PathParses'. -/
def pathParsesUptoCard : Claim7 := { stood := { row := pathParsesUptoRow, standIns := [], harness := (true, "4ba410bfb1672f864ca9f9e74ed4dd7df61bff61d2403dab54d27eb1b6d22926"), looks := true }, kinds := [], alts := [], laidByText := true, laidKinds := [.data, .data, .data, .sentinel, .sentinel], laidTests := true, laidLooks := .later }
def PathParsesUptoCardSaid : Prop := Claim7.holds Tryd.pinned (.plain (OpenSpec.upto pathParsesSpec)) pathParsesUptoCard

/-- THE SECOND FORM's CARD OF 'rifflelaw13.PathBack'. -/
def pathBackUptoCard : Claim7 := { stood := { row := pathBackUptoRow, standIns := [], harness := (true, "4ba410bfb1672f864ca9f9e74ed4dd7df61bff61d2403dab54d27eb1b6d22926"), looks := true }, kinds := [], alts := [], laidByText := true, laidKinds := [.data, .data, .data, .sentinel, .sentinel], laidTests := true, laidLooks := .later }
def PathBackUptoCardSaid : Prop := Claim7.holds Tryd.pinned (.plain (OpenSpec.upto pathBackSpec)) pathBackUptoCard
end Rows
end Go.Proofs.YthfhefkacmepkaaDoor
