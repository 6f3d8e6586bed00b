/-
  DERIVED. GIVEN WITH THE SEED: THE CARDS: each row of YtjfoppmpiklfiaaDoorRows.lean that lists a variable, with what it lists TIED to the program's text (the seventh form; the later family's looks); each row that meets fmt, with fmt's text TOLD by the authors' own Lean function (tested against real Go, not proved from fmt's source: count such statements apart). THE CARD IS WHAT COUNTS. Prove the row's statement (the work); the ties are given (YtjfoppmpiklfiaaDoorTie.lean); close each card by the builder's one call (the guide's Derived/Test/ToyasCard.lean, 'card_holds'). Laid BY PROGRAM, IN A SANDBOX (cutbox-door.mjs). By AI agents, Wed Nov 11 2026. No macro, syntax, notation, axiom, sorry.
-/
import Derived.Test.YtjfoppmpiklfiaaDoorRows
import GoSem.ClaimSeven
namespace Go.Proofs.YtjfoppmpiklfiaaDoor
namespace Rows

/-- THE TIED CARD OF 'rifflelaw05.LiteralWalks'. -/
def literalWalksCard : Claim7 := { stood := { row := literalWalksRow, standIns := [], harness := (true, "d20e6f3ccb9ecb3790881e71d5bfa8d574aeddfdb0e249c1fa233449f02f5a33"), looks := false }, kinds := [], alts := [], laidByText := true, laidKinds := [.data], laidTests := true, laidLooks := .later }
def LiteralWalksCardSaid : Prop := Claim7.holds Tryd.pinned (.plain (OpenSpec.ofChange literalWalksSpec)) literalWalksCard

/-- THE TIED CARD OF 'rifflelaw05.LiteralKinds'. -/
def literalKindsCard : Claim7 := { stood := { row := literalKindsRow, standIns := [], harness := (true, "d20e6f3ccb9ecb3790881e71d5bfa8d574aeddfdb0e249c1fa233449f02f5a33"), looks := false }, kinds := [], alts := [], laidByText := true, laidKinds := [.data], laidTests := true, laidLooks := .later }
def LiteralKindsCardSaid : Prop := Claim7.holds Tryd.pinned (.plain (OpenSpec.ofChange literalKindsSpec)) literalKindsCard

/-- THE SECOND FORM's CARD OF 'rifflelaw05.LiteralWalks'. -/
def literalWalksUptoCard : Claim7 := { stood := { row := literalWalksUptoRow, standIns := [], harness := (true, "d20e6f3ccb9ecb3790881e71d5bfa8d574aeddfdb0e249c1fa233449f02f5a33"), looks := false }, kinds := [], alts := [], laidByText := true, laidKinds := [.data], laidTests := true, laidLooks := .later }
def LiteralWalksUptoCardSaid : Prop := Claim7.holds Tryd.pinned (.plain (OpenSpec.upto literalWalksSpec)) literalWalksUptoCard

/-- THE SECOND FORM's CARD OF 'rifflelaw05.LiteralKinds'. -/
def literalKindsUptoCard : Claim7 := { stood := { row := literalKindsUptoRow, standIns := [], harness := (true, "d20e6f3ccb9ecb3790881e71d5bfa8d574aeddfdb0e249c1fa233449f02f5a33"), looks := false }, kinds := [], alts := [], laidByText := true, laidKinds := [.data], laidTests := true, laidLooks := .later }
def LiteralKindsUptoCardSaid : Prop := Claim7.holds Tryd.pinned (.plain (OpenSpec.upto literalKindsSpec)) literalKindsUptoCard
end Rows
end Go.Proofs.YtjfoppmpiklfiaaDoor
