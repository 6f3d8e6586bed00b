/-
  No cell of these rows narrows 'for every input' (looked for: loops, veiled, ifaces, maps, wideKeys, modest, calm, conditions, laid).
  DERIVED. THE GIVEN ROWS OF THIS SEAT. 4 by the template 'for every input the law returns true; each argument reads behind the call as it read before'; 0 by the template 'total and deterministic' (their statements: YtlhpflicchchlaaTotals.lean).
  GIVEN WITH THE SEED: the statements are not yours to turn. If you find one false, say at which input.
  Laid BY PROGRAM, IN A SANDBOX (cutbox-rows.mjs): the forced cells as the released guide's own fill.sh prints them over the translation a92cdcc4f702c7d6… (all of the seat's roots in one cut). By AI agents, Wed Nov 11 2026. No macro, syntax, notation, axiom, sorry.
-/
import Derived.Test.YtlhpflicchchlaaChecked
import GoSem.Claim
import GoSem.ClaimJoined
import GoSem.ClaimMapViews
import Derived.JoinedTies
import Derived.KernelRfl
namespace Go.Proofs.Ytlhpflicchchlaa
/- THE CELL 'sum', in the pinned program and in every row, IS THE sha256 OF THE DUMP (.gsa) THAT YtlhpflicchchlaaProg.lean LOADS. Nothing in Lean hashes anything: it is a label: what it is worth is what the hold of that sum in a sandbox is worth. -/
noncomputable def Try.pinned : Pinned := { name := "ytlhpflicchchlaa", sum := "a92cdcc4f702c7d6c2feb85ecf904d92c75a049c4401727d7bb6309fe765ee23", checked := Try.checked }
namespace Rows
def none {H : Type} : Left H := { results := [], args := [] }

/-- 'rifflelaw11.ShowBytes': WHATEVER THE INPUT: true; the input reads as it did. -/
def showBytesSpec : ChangeSpec := { name := "showBytes", fn := fun _ => fun
  | [d1, d2, d3] => { results := [.lit (.bool true)], args := [d1, d2, d3] }
  | _ => none }
def showBytesRow : OpenClaim := { program := "ytlhpflicchchlaa", sum := "a92cdcc4f702c7d6c2feb85ecf904d92c75a049c4401727d7bb6309fe765ee23", func := "riffle/rifflelaw11.ShowBytes", spec := "showBytes", inPlace := ["internal/abi.NoEscape", "internal/bytealg.MakeNoZero"], recurses := true, apart := false }
def ShowBytesSaid : Prop := showBytesRow.holds Try.pinned (OpenSpec.ofChange showBytesSpec)

/-- ITS FALSE NEIGHBOUR: 'it returns false'. Refute it at one input. -/
def showBytesWrong : ChangeSpec := { name := "showBytes", fn := fun _ => fun
  | [d1, d2, d3] => { results := [.lit (.bool false)], args := [d1, d2, d3] }
  | _ => none }
def ShowBytesWrongFalsely : Prop := showBytesRow.holds Try.pinned (OpenSpec.ofChange showBytesWrong)

/-- 'rifflelaw11.ShowTells': WHATEVER THE INPUT: true; the input reads as it did. -/
def showTellsSpec : ChangeSpec := { name := "showTells", fn := fun _ => fun
  | [d] => { results := [.lit (.bool true)], args := [d] }
  | _ => none }
def showTellsRow : OpenClaim := { program := "ytlhpflicchchlaa", sum := "a92cdcc4f702c7d6c2feb85ecf904d92c75a049c4401727d7bb6309fe765ee23", func := "riffle/rifflelaw11.ShowTells", spec := "showTells", inPlace := ["internal/abi.NoEscape", "internal/bytealg.MakeNoZero"], recurses := true, apart := false }
def ShowTellsSaid : Prop := showTellsRow.holds Try.pinned (OpenSpec.ofChange showTellsSpec)

/-- ITS FALSE NEIGHBOUR: 'it returns false'. Refute it at one input. -/
def showTellsWrong : ChangeSpec := { name := "showTells", fn := fun _ => fun
  | [d] => { results := [.lit (.bool false)], args := [d] }
  | _ => none }
def ShowTellsWrongFalsely : Prop := showTellsRow.holds Try.pinned (OpenSpec.ofChange showTellsWrong)

/-- 'rifflelaw06.QuotePuts': WHATEVER THE INPUT: true; the input reads as it did. -/
def quotePutsSpec : ChangeSpec := { name := "quotePuts", fn := fun _ => fun
  | [d] => { results := [.lit (.bool true)], args := [d] }
  | _ => none }
def quotePutsRow : OpenClaim := { program := "ytlhpflicchchlaa", sum := "a92cdcc4f702c7d6c2feb85ecf904d92c75a049c4401727d7bb6309fe765ee23", func := "riffle/rifflelaw06.QuotePuts", spec := "quotePuts", inPlace := ["internal/abi.NoEscape"], apart := false }
def QuotePutsSaid : Prop := quotePutsRow.holds Try.pinned (OpenSpec.ofChange quotePutsSpec)

/-- ITS FALSE NEIGHBOUR: 'it returns false'. Refute it at one input. -/
def quotePutsWrong : ChangeSpec := { name := "quotePuts", fn := fun _ => fun
  | [d] => { results := [.lit (.bool false)], args := [d] }
  | _ => none }
def QuotePutsWrongFalsely : Prop := quotePutsRow.holds Try.pinned (OpenSpec.ofChange quotePutsWrong)

/-- 'rifflelaw06.QuoteBack': WHATEVER THE INPUT: true; the input reads as it did. -/
def quoteBackSpec : ChangeSpec := { name := "quoteBack", fn := fun _ => fun
  | [d1, d2] => { results := [.lit (.bool true)], args := [d1, d2] }
  | _ => none }
def quoteBackRow : OpenClaim := { program := "ytlhpflicchchlaa", sum := "a92cdcc4f702c7d6c2feb85ecf904d92c75a049c4401727d7bb6309fe765ee23", func := "riffle/rifflelaw06.QuoteBack", spec := "quoteBack", inPlace := ["internal/abi.NoEscape"], apart := false }
def QuoteBackSaid : Prop := quoteBackRow.holds Try.pinned (OpenSpec.ofChange quoteBackSpec)

/-- ITS FALSE NEIGHBOUR: 'it returns false'. Refute it at one input. -/
def quoteBackWrong : ChangeSpec := { name := "quoteBack", fn := fun _ => fun
  | [d1, d2] => { results := [.lit (.bool false)], args := [d1, d2] }
  | _ => none }
def QuoteBackWrongFalsely : Prop := quoteBackRow.holds Try.pinned (OpenSpec.ofChange quoteBackWrong)

/- THE SECOND FORM. 'bulk': how many values and letters a reading holds, each counted each time it is reached (what is shared counts as often as it is met; a slice's spare places count too). A statement '..UptoSaid' is the law's where the arguments, and the package variables that the reading takes, are together of bulk at most 1048576: NARROWER than '..Said'. Prove '..Said' where nothing that the law and all that it calls make is longer than what came in: it says more and counts as full. Else prove '..UptoSaid'. A law counts once. -/
mutual
def uptoBulk {H : Type} : DataW H → Nat
  | .lit (.string bytes) => bytes.length + 1
  | .lit _ => 1
  | .nil => 1
  | .ptr d => uptoBulk d + 1
  | .slice elems spare => uptoBulkAll elems + uptoBulkAll spare + 1
  | .agg parts => uptoBulkAll parts + 1
  | .iface _ d => uptoBulk d + 1
  | .map entries => uptoBulkEntries entries + 1
  | .held _ => 1
def uptoBulkAll {H : Type} : List (DataW H) → Nat
  | [] => 0
  | d :: r => uptoBulk d + uptoBulkAll r
def uptoBulkEntries {H : Type} : List (Lit × DataW H) → Nat
  | [] => 0
  | x :: r => uptoBulkEntry x + uptoBulkEntries r
def uptoBulkEntry {H : Type} : Lit × DataW H → Nat
  | (.string bytes, d) => bytes.length + uptoBulk d + 1
  | (_, d) => uptoBulk d + 1
 end
def uptoSmall : (H : Type) → List (DataW H) → Bool := fun _ ds => decide (uptoBulkAll ds ≤ 1048576)
def OpenSpec.upto (s : _root_.Go.ChangeSpec) : _root_.Go.OpenSpec := { _root_.Go.OpenSpec.ofChange s with cond := some uptoSmall }

/-- 'rifflelaw11.ShowBytes', WHERE WHAT IT READS IS OF BULK AT MOST 1048576: true; the input reads as it did. -/
def showBytesUptoRow : OpenClaim := { program := "ytlhpflicchchlaa", sum := "a92cdcc4f702c7d6c2feb85ecf904d92c75a049c4401727d7bb6309fe765ee23", func := "riffle/rifflelaw11.ShowBytes", spec := "showBytes", inPlace := ["internal/abi.NoEscape", "internal/bytealg.MakeNoZero"], recurses := true, apart := false, narrowed := true }
def ShowBytesUptoSaid : Prop := showBytesUptoRow.holds Try.pinned (OpenSpec.upto showBytesSpec)

/-- 'rifflelaw11.ShowTells', WHERE WHAT IT READS IS OF BULK AT MOST 1048576: true; the input reads as it did. -/
def showTellsUptoRow : OpenClaim := { program := "ytlhpflicchchlaa", sum := "a92cdcc4f702c7d6c2feb85ecf904d92c75a049c4401727d7bb6309fe765ee23", func := "riffle/rifflelaw11.ShowTells", spec := "showTells", inPlace := ["internal/abi.NoEscape", "internal/bytealg.MakeNoZero"], recurses := true, apart := false, narrowed := true }
def ShowTellsUptoSaid : Prop := showTellsUptoRow.holds Try.pinned (OpenSpec.upto showTellsSpec)

/-- 'rifflelaw06.QuotePuts', WHERE WHAT IT READS IS OF BULK AT MOST 1048576: true; the input reads as it did. -/
def quotePutsUptoRow : OpenClaim := { program := "ytlhpflicchchlaa", sum := "a92cdcc4f702c7d6c2feb85ecf904d92c75a049c4401727d7bb6309fe765ee23", func := "riffle/rifflelaw06.QuotePuts", spec := "quotePuts", inPlace := ["internal/abi.NoEscape"], apart := false, narrowed := true }
def QuotePutsUptoSaid : Prop := quotePutsUptoRow.holds Try.pinned (OpenSpec.upto quotePutsSpec)

/-- 'rifflelaw06.QuoteBack', WHERE WHAT IT READS IS OF BULK AT MOST 1048576: true; the input reads as it did. -/
def quoteBackUptoRow : OpenClaim := { program := "ytlhpflicchchlaa", sum := "a92cdcc4f702c7d6c2feb85ecf904d92c75a049c4401727d7bb6309fe765ee23", func := "riffle/rifflelaw06.QuoteBack", spec := "quoteBack", inPlace := ["internal/abi.NoEscape"], apart := false, narrowed := true }
def QuoteBackUptoSaid : Prop := quoteBackUptoRow.holds Try.pinned (OpenSpec.upto quoteBackSpec)

end Rows
end Go.Proofs.Ytlhpflicchchlaa
