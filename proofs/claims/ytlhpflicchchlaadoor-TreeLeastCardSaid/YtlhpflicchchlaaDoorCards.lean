/-
  DERIVED. GIVEN WITH THE SEED: THE CARDS: each row of YtlhpflicchchlaaDoorRows.lean that lists a variable, with what it lists TIED to the program's text (the seventh form; the later family's looks); each row that meets fmt, with fmt's text TOLD by the authors' own Lean function (tested against real Go, not proved from fmt's source: count such statements apart). THE CARD IS WHAT COUNTS. Prove the row's statement (the work); the ties are given (YtlhpflicchchlaaDoorTie.lean); close each card by the builder's one call (the guide's Derived/Test/ToyasCard.lean, 'card_holds'). Laid BY PROGRAM, IN A SANDBOX (cutbox-door.mjs). By AI agents, Wed Nov 11 2026. No macro, syntax, notation, axiom, sorry.
-/
import Derived.Test.YtlhpflicchchlaaDoorRows
import GoSem.ClaimSeven
namespace Go.Proofs.YtlhpflicchchlaaDoor
namespace Rows

/-- THE TIED CARD OF 'rifflelaw13.PathPuts'. -/
def pathPutsCard : Claim7 := { stood := { row := pathPutsRow, standIns := [], harness := (true, "663aaf8c58e61408e94b1e51fb950d62a1961ce32faf1448d76ec900c493cef6"), looks := true }, kinds := [], alts := [], laidByText := true, laidKinds := [.data, .data, .data], laidTests := true, laidLooks := .later }
def PathPutsCardSaid : Prop := Claim7.holds Tryd.pinned (.plain (OpenSpec.ofChange pathPutsSpec)) pathPutsCard

/-- THE TIED CARD OF 'rifflelaw07.LexSpans'. -/
def lexSpansCard : Claim7 := { stood := { row := lexSpansRow, standIns := [], harness := (true, "663aaf8c58e61408e94b1e51fb950d62a1961ce32faf1448d76ec900c493cef6"), looks := true }, kinds := [], alts := [], laidByText := true, laidKinds := [.data], laidTests := true, laidLooks := .later }
def LexSpansCardSaid : Prop := Claim7.holds Tryd.pinned (.plain (OpenSpec.ofChange lexSpansSpec)) lexSpansCard

/-- THE TIED CARD OF 'rifflelaw15.WriteSteps'. -/
def writeStepsCard : Claim7 := { stood := { row := writeStepsRow, standIns := [], harness := (true, "663aaf8c58e61408e94b1e51fb950d62a1961ce32faf1448d76ec900c493cef6"), looks := true }, kinds := [], alts := [], laidByText := true, laidKinds := [.data, .data, .data], laidTests := true, laidLooks := .later }
def WriteStepsCardSaid : Prop := Claim7.holds Tryd.pinned (.plain (OpenSpec.ofChange writeStepsSpec)) writeStepsCard

/-- THE TIED CARD OF 'rifflelaw15.WriteTells'. -/
def writeTellsCard : Claim7 := { stood := { row := writeTellsRow, standIns := [], harness := (true, "663aaf8c58e61408e94b1e51fb950d62a1961ce32faf1448d76ec900c493cef6"), looks := true }, kinds := [], alts := [], laidByText := true, laidKinds := [.data, .data, .data], laidTests := true, laidLooks := .later }
def WriteTellsCardSaid : Prop := Claim7.holds Tryd.pinned (.plain (OpenSpec.ofChange writeTellsSpec)) writeTellsCard

/-- THE TIED CARD OF 'rifflelaw09.NestPairs'. -/
def nestPairsCard : Claim7 := { stood := { row := nestPairsRow, standIns := [], harness := (true, "663aaf8c58e61408e94b1e51fb950d62a1961ce32faf1448d76ec900c493cef6"), looks := true }, kinds := [], alts := [], laidByText := true, laidKinds := [.data], laidTests := true, laidLooks := .later }
def NestPairsCardSaid : Prop := Claim7.holds Tryd.pinned (.plain (OpenSpec.ofChange nestPairsSpec)) nestPairsCard

/-- THE TIED CARD OF 'rifflelaw10.TreeLeast'. -/
def treeLeastCard : Claim7 := { stood := { row := treeLeastRow, standIns := [], harness := (true, "663aaf8c58e61408e94b1e51fb950d62a1961ce32faf1448d76ec900c493cef6"), looks := true }, kinds := [], alts := [], laidByText := true, laidKinds := [.data], laidTests := true, laidLooks := .later }
def TreeLeastCardSaid : Prop := Claim7.holds Tryd.pinned (.plain (OpenSpec.ofChange treeLeastSpec)) treeLeastCard

/-- THE TIED CARD OF 'rifflelaw10.TreeSpans'. -/
def treeSpansCard : Claim7 := { stood := { row := treeSpansRow, standIns := [], harness := (true, "663aaf8c58e61408e94b1e51fb950d62a1961ce32faf1448d76ec900c493cef6"), looks := true }, kinds := [], alts := [], laidByText := true, laidKinds := [.data], laidTests := true, laidLooks := .later }
def TreeSpansCardSaid : Prop := Claim7.holds Tryd.pinned (.plain (OpenSpec.ofChange treeSpansSpec)) treeSpansCard

/-- THE TIED CARD OF 'rifflelaw13.PathParses'. -/
def pathParsesCard : Claim7 := { stood := { row := pathParsesRow, standIns := [], harness := (true, "663aaf8c58e61408e94b1e51fb950d62a1961ce32faf1448d76ec900c493cef6"), looks := true }, kinds := [], alts := [], laidByText := true, laidKinds := [.data, .data, .data, .sentinel, .sentinel], laidTests := true, laidLooks := .later }
def PathParsesCardSaid : Prop := Claim7.holds Tryd.pinned (.plain (OpenSpec.ofChange pathParsesSpec)) pathParsesCard

/-- THE SECOND FORM's CARD OF 'rifflelaw13.PathPuts'. -/
def pathPutsUptoCard : Claim7 := { stood := { row := pathPutsUptoRow, standIns := [], harness := (true, "663aaf8c58e61408e94b1e51fb950d62a1961ce32faf1448d76ec900c493cef6"), looks := true }, kinds := [], alts := [], laidByText := true, laidKinds := [.data, .data, .data], laidTests := true, laidLooks := .later }
def PathPutsUptoCardSaid : Prop := Claim7.holds Tryd.pinned (.plain (OpenSpec.upto pathPutsSpec)) pathPutsUptoCard

/-- THE SECOND FORM's CARD OF 'rifflelaw07.LexSpans'. -/
def lexSpansUptoCard : Claim7 := { stood := { row := lexSpansUptoRow, standIns := [], harness := (true, "663aaf8c58e61408e94b1e51fb950d62a1961ce32faf1448d76ec900c493cef6"), looks := true }, kinds := [], alts := [], laidByText := true, laidKinds := [.data], laidTests := true, laidLooks := .later }
def LexSpansUptoCardSaid : Prop := Claim7.holds Tryd.pinned (.plain (OpenSpec.upto lexSpansSpec)) lexSpansUptoCard

/-- THE SECOND FORM's CARD OF 'rifflelaw15.WriteSteps'. -/
def writeStepsUptoCard : Claim7 := { stood := { row := writeStepsUptoRow, standIns := [], harness := (true, "663aaf8c58e61408e94b1e51fb950d62a1961ce32faf1448d76ec900c493cef6"), looks := true }, kinds := [], alts := [], laidByText := true, laidKinds := [.data, .data, .data], laidTests := true, laidLooks := .later }
def WriteStepsUptoCardSaid : Prop := Claim7.holds Tryd.pinned (.plain (OpenSpec.upto writeStepsSpec)) writeStepsUptoCard

/-- THE SECOND FORM's CARD OF 'rifflelaw15.WriteTells'. -/
def writeTellsUptoCard : Claim7 := { stood := { row := writeTellsUptoRow, standIns := [], harness := (true, "663aaf8c58e61408e94b1e51fb950d62a1961ce32faf1448d76ec900c493cef6"), looks := true }, kinds := [], alts := [], laidByText := true, laidKinds := [.data, .data, .data], laidTests := true, laidLooks := .later }
def WriteTellsUptoCardSaid : Prop := Claim7.holds Tryd.pinned (.plain (OpenSpec.upto writeTellsSpec)) writeTellsUptoCard

/-- THE SECOND FORM's CARD OF 'rifflelaw09.NestPairs'. -/
def nestPairsUptoCard : Claim7 := { stood := { row := nestPairsUptoRow, standIns := [], harness := (true, "663aaf8c58e61408e94b1e51fb950d62a1961ce32faf1448d76ec900c493cef6"), looks := true }, kinds := [], alts := [], laidByText := true, laidKinds := [.data], laidTests := true, laidLooks := .later }
def NestPairsUptoCardSaid : Prop := Claim7.holds Tryd.pinned (.plain (OpenSpec.upto nestPairsSpec)) nestPairsUptoCard

/-- THE SECOND FORM's CARD OF 'rifflelaw10.TreeLeast'. -/
def treeLeastUptoCard : Claim7 := { stood := { row := treeLeastUptoRow, standIns := [], harness := (true, "663aaf8c58e61408e94b1e51fb950d62a1961ce32faf1448d76ec900c493cef6"), looks := true }, kinds := [], alts := [], laidByText := true, laidKinds := [.data], laidTests := true, laidLooks := .later }
def TreeLeastUptoCardSaid : Prop := Claim7.holds Tryd.pinned (.plain (OpenSpec.upto treeLeastSpec)) treeLeastUptoCard

/-- THE SECOND FORM's CARD OF 'rifflelaw10.TreeSpans'. -/
def treeSpansUptoCard : Claim7 := { stood := { row := treeSpansUptoRow, standIns := [], harness := (true, "663aaf8c58e61408e94b1e51fb950d62a1961ce32faf1448d76ec900c493cef6"), looks := true }, kinds := [], alts := [], laidByText := true, laidKinds := [.data], laidTests := true, laidLooks := .later }
def TreeSpansUptoCardSaid : Prop := Claim7.holds Tryd.pinned (.plain (OpenSpec.upto treeSpansSpec)) treeSpansUptoCard

/-- THE SECOND FORM's CARD OF 'rifflelaw13.PathParses'. -/
def pathParsesUptoCard : Claim7 := { stood := { row := pathParsesUptoRow, standIns := [], harness := (true, "663aaf8c58e61408e94b1e51fb950d62a1961ce32faf1448d76ec900c493cef6"), looks := true }, kinds := [], alts := [], laidByText := true, laidKinds := [.data, .data, .data, .sentinel, .sentinel], laidTests := true, laidLooks := .later }
def PathParsesUptoCardSaid : Prop := Claim7.holds Tryd.pinned (.plain (OpenSpec.upto pathParsesSpec)) pathParsesUptoCard
end Rows
end Go.Proofs.YtlhpflicchchlaaDoor
