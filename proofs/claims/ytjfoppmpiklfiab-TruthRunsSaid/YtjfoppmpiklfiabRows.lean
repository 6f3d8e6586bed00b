/-
  No cell of these rows narrows 'for every input' (looked for: loops, veiled, ifaces, maps, wideKeys, modest, calm, conditions, laid).
  DERIVED. THE GIVEN ROWS OF THIS SEAT. 9 by the template 'for every input the law returns true; each argument reads behind the call as it read before'; 0 by the template 'total and deterministic' (their statements: YtjfoppmpiklfiabTotals.lean).
  GIVEN WITH THE SEED: the statements are not yours to turn. If you find one false, say at which input.
  Laid BY PROGRAM, IN A SANDBOX (cutbox-rows.mjs): the forced cells as the released guide's own fill.sh prints them over the translation 80cc8f6cccab2e53… (all of the seat's roots in one cut). By AI agents, Wed Nov 11 2026. No macro, syntax, notation, axiom, sorry.
-/
import Derived.Test.YtjfoppmpiklfiabChecked
import GoSem.Claim
import GoSem.ClaimJoined
import GoSem.ClaimMapViews
import Derived.JoinedTies
import Derived.KernelRfl
namespace Go.Proofs.Ytjfoppmpiklfiab
/- THE CELL 'sum', in the pinned program and in every row, IS THE sha256 OF THE DUMP (.gsa) THAT YtjfoppmpiklfiabProg.lean LOADS. Nothing in Lean hashes anything: it is a label: what it is worth is what the hold of that sum in a sandbox is worth. -/
noncomputable def Try.pinned : Pinned := { name := "ytjfoppmpiklfiab", sum := "80cc8f6cccab2e53cf69763f67568189a2686953c048b1da4eb406a9ae82a38d", checked := Try.checked }
namespace Rows
def none {H : Type} : Left H := { results := [], args := [] }

/-- 'rifflelaw02.UtfBads': WHATEVER THE INPUT: true; the input reads as it did. -/
def utfBadsSpec : ChangeSpec := { name := "utfBads", fn := fun _ => fun
  | [d] => { results := [.lit (.bool true)], args := [d] }
  | _ => none }
def utfBadsRow : OpenClaim := { program := "ytjfoppmpiklfiab", sum := "80cc8f6cccab2e53cf69763f67568189a2686953c048b1da4eb406a9ae82a38d", func := "riffle/rifflelaw02.UtfBads", spec := "utfBads", apart := false }
def UtfBadsSaid : Prop := utfBadsRow.holds Try.pinned (OpenSpec.ofChange utfBadsSpec)

/-- ITS FALSE NEIGHBOUR: 'it returns false'. Refute it at one input. -/
def utfBadsWrong : ChangeSpec := { name := "utfBads", fn := fun _ => fun
  | [d] => { results := [.lit (.bool false)], args := [d] }
  | _ => none }
def UtfBadsWrongFalsely : Prop := utfBadsRow.holds Try.pinned (OpenSpec.ofChange utfBadsWrong)

/-- 'rifflelaw02.UtfParts': WHATEVER THE INPUT: true; the input reads as it did. -/
def utfPartsSpec : ChangeSpec := { name := "utfParts", fn := fun _ => fun
  | [d1, d2] => { results := [.lit (.bool true)], args := [d1, d2] }
  | _ => none }
def utfPartsRow : OpenClaim := { program := "ytjfoppmpiklfiab", sum := "80cc8f6cccab2e53cf69763f67568189a2686953c048b1da4eb406a9ae82a38d", func := "riffle/rifflelaw02.UtfParts", spec := "utfParts", apart := false }
def UtfPartsSaid : Prop := utfPartsRow.holds Try.pinned (OpenSpec.ofChange utfPartsSpec)

/-- ITS FALSE NEIGHBOUR: 'it returns false'. Refute it at one input. -/
def utfPartsWrong : ChangeSpec := { name := "utfParts", fn := fun _ => fun
  | [d1, d2] => { results := [.lit (.bool false)], args := [d1, d2] }
  | _ => none }
def UtfPartsWrongFalsely : Prop := utfPartsRow.holds Try.pinned (OpenSpec.ofChange utfPartsWrong)

/-- 'rifflelaw02.UtfWalks': WHATEVER THE INPUT: true; the input reads as it did. -/
def utfWalksSpec : ChangeSpec := { name := "utfWalks", fn := fun _ => fun
  | [d] => { results := [.lit (.bool true)], args := [d] }
  | _ => none }
def utfWalksRow : OpenClaim := { program := "ytjfoppmpiklfiab", sum := "80cc8f6cccab2e53cf69763f67568189a2686953c048b1da4eb406a9ae82a38d", func := "riffle/rifflelaw02.UtfWalks", spec := "utfWalks", apart := false }
def UtfWalksSaid : Prop := utfWalksRow.holds Try.pinned (OpenSpec.ofChange utfWalksSpec)

/-- ITS FALSE NEIGHBOUR: 'it returns false'. Refute it at one input. -/
def utfWalksWrong : ChangeSpec := { name := "utfWalks", fn := fun _ => fun
  | [d] => { results := [.lit (.bool false)], args := [d] }
  | _ => none }
def UtfWalksWrongFalsely : Prop := utfWalksRow.holds Try.pinned (OpenSpec.ofChange utfWalksWrong)

/-- 'rifflelaw04.NumeralWalks': WHATEVER THE INPUT: true; the input reads as it did. -/
def numeralWalksSpec : ChangeSpec := { name := "numeralWalks", fn := fun _ => fun
  | [d] => { results := [.lit (.bool true)], args := [d] }
  | _ => none }
def numeralWalksRow : OpenClaim := { program := "ytjfoppmpiklfiab", sum := "80cc8f6cccab2e53cf69763f67568189a2686953c048b1da4eb406a9ae82a38d", func := "riffle/rifflelaw04.NumeralWalks", spec := "numeralWalks", apart := false }
def NumeralWalksSaid : Prop := numeralWalksRow.holds Try.pinned (OpenSpec.ofChange numeralWalksSpec)

/-- ITS FALSE NEIGHBOUR: 'it returns false'. Refute it at one input. -/
def numeralWalksWrong : ChangeSpec := { name := "numeralWalks", fn := fun _ => fun
  | [d] => { results := [.lit (.bool false)], args := [d] }
  | _ => none }
def NumeralWalksWrongFalsely : Prop := numeralWalksRow.holds Try.pinned (OpenSpec.ofChange numeralWalksWrong)

/-- 'rifflelaw04.NumeralTells': WHATEVER THE INPUT: true; the input reads as it did. -/
def numeralTellsSpec : ChangeSpec := { name := "numeralTells", fn := fun _ => fun
  | [d] => { results := [.lit (.bool true)], args := [d] }
  | _ => none }
def numeralTellsRow : OpenClaim := { program := "ytjfoppmpiklfiab", sum := "80cc8f6cccab2e53cf69763f67568189a2686953c048b1da4eb406a9ae82a38d", func := "riffle/rifflelaw04.NumeralTells", spec := "numeralTells", apart := false }
def NumeralTellsSaid : Prop := numeralTellsRow.holds Try.pinned (OpenSpec.ofChange numeralTellsSpec)

/-- ITS FALSE NEIGHBOUR: 'it returns false'. Refute it at one input. -/
def numeralTellsWrong : ChangeSpec := { name := "numeralTells", fn := fun _ => fun
  | [d] => { results := [.lit (.bool false)], args := [d] }
  | _ => none }
def NumeralTellsWrongFalsely : Prop := numeralTellsRow.holds Try.pinned (OpenSpec.ofChange numeralTellsWrong)

/-- 'rifflelaw04.NumeralParts': WHATEVER THE INPUT: true; the input reads as it did. -/
def numeralPartsSpec : ChangeSpec := { name := "numeralParts", fn := fun _ => fun
  | [d] => { results := [.lit (.bool true)], args := [d] }
  | _ => none }
def numeralPartsRow : OpenClaim := { program := "ytjfoppmpiklfiab", sum := "80cc8f6cccab2e53cf69763f67568189a2686953c048b1da4eb406a9ae82a38d", func := "riffle/rifflelaw04.NumeralParts", spec := "numeralParts", apart := false }
def NumeralPartsSaid : Prop := numeralPartsRow.holds Try.pinned (OpenSpec.ofChange numeralPartsSpec)

/-- ITS FALSE NEIGHBOUR: 'it returns false'. Refute it at one input. -/
def numeralPartsWrong : ChangeSpec := { name := "numeralParts", fn := fun _ => fun
  | [d] => { results := [.lit (.bool false)], args := [d] }
  | _ => none }
def NumeralPartsWrongFalsely : Prop := numeralPartsRow.holds Try.pinned (OpenSpec.ofChange numeralPartsWrong)

/-- 'rifflelaw18.TruthStays': WHATEVER THE INPUT: true; the input reads as it did. -/
def truthStaysSpec : ChangeSpec := { name := "truthStays", fn := fun _ => fun
  | [d1, d2] => { results := [.lit (.bool true)], args := [d1, d2] }
  | _ => none }
def truthStaysRow : OpenClaim := { program := "ytjfoppmpiklfiab", sum := "80cc8f6cccab2e53cf69763f67568189a2686953c048b1da4eb406a9ae82a38d", func := "riffle/rifflelaw18.TruthStays", spec := "truthStays", unfollowed := true, recurses := true, apart := false }
def TruthStaysSaid : Prop := truthStaysRow.holds Try.pinned (OpenSpec.ofChange truthStaysSpec)

/-- ITS FALSE NEIGHBOUR: 'it returns false'. Refute it at one input. -/
def truthStaysWrong : ChangeSpec := { name := "truthStays", fn := fun _ => fun
  | [d1, d2] => { results := [.lit (.bool false)], args := [d1, d2] }
  | _ => none }
def TruthStaysWrongFalsely : Prop := truthStaysRow.holds Try.pinned (OpenSpec.ofChange truthStaysWrong)

/-- 'rifflelaw18.TruthRuns': WHATEVER THE INPUT: true; the input reads as it did. -/
def truthRunsSpec : ChangeSpec := { name := "truthRuns", fn := fun _ => fun
  | [d] => { results := [.lit (.bool true)], args := [d] }
  | _ => none }
def truthRunsRow : OpenClaim := { program := "ytjfoppmpiklfiab", sum := "80cc8f6cccab2e53cf69763f67568189a2686953c048b1da4eb406a9ae82a38d", func := "riffle/rifflelaw18.TruthRuns", spec := "truthRuns", unfollowed := true, recurses := true, apart := false }
def TruthRunsSaid : Prop := truthRunsRow.holds Try.pinned (OpenSpec.ofChange truthRunsSpec)

/-- ITS FALSE NEIGHBOUR: 'it returns false'. Refute it at one input. -/
def truthRunsWrong : ChangeSpec := { name := "truthRuns", fn := fun _ => fun
  | [d] => { results := [.lit (.bool false)], args := [d] }
  | _ => none }
def TruthRunsWrongFalsely : Prop := truthRunsRow.holds Try.pinned (OpenSpec.ofChange truthRunsWrong)

/-- 'rifflelaw02.UtfPuts': WHATEVER THE INPUT: true; the input reads as it did. -/
def utfPutsSpec : ChangeSpec := { name := "utfPuts", fn := fun _ => fun
  | [d1, d2] => { results := [.lit (.bool true)], args := [d1, d2] }
  | _ => none }
def utfPutsRow : OpenClaim := { program := "ytjfoppmpiklfiab", sum := "80cc8f6cccab2e53cf69763f67568189a2686953c048b1da4eb406a9ae82a38d", func := "riffle/rifflelaw02.UtfPuts", spec := "utfPuts", apart := false }
def UtfPutsSaid : Prop := utfPutsRow.holds Try.pinned (OpenSpec.ofChange utfPutsSpec)

/-- ITS FALSE NEIGHBOUR: 'it returns false'. Refute it at one input. -/
def utfPutsWrong : ChangeSpec := { name := "utfPuts", fn := fun _ => fun
  | [d1, d2] => { results := [.lit (.bool false)], args := [d1, d2] }
  | _ => none }
def UtfPutsWrongFalsely : Prop := utfPutsRow.holds Try.pinned (OpenSpec.ofChange utfPutsWrong)

/- THE SECOND FORM. 'bulk': how many values and letters a reading holds, each counted each time it is reached (what is shared counts as often as it is met; a slice's spare places count too). A statement '..UptoSaid' is the law's where the arguments, and the package variables that the reading takes, are together of bulk at most 1048576: NARROWER than '..Said'. Prove '..Said' where nothing that the law and all that it calls make is longer than what came in: it says more and counts as full. Else prove '..UptoSaid'. A law counts once. -/
mutual
def uptoBulk {H : Type} : DataW H → Nat
  | .lit (.string bytes) => bytes.length + 1
  | .lit _ => 1
  | .nil => 1
  | .ptr d => uptoBulk d + 1
  | .slice elems spare => uptoBulkAll elems + uptoBulkAll spare + 1
  | .agg parts => uptoBulkAll parts + 1
  | .iface _ d => uptoBulk d + 1
  | .map entries => uptoBulkEntries entries + 1
  | .held _ => 1
def uptoBulkAll {H : Type} : List (DataW H) → Nat
  | [] => 0
  | d :: r => uptoBulk d + uptoBulkAll r
def uptoBulkEntries {H : Type} : List (Lit × DataW H) → Nat
  | [] => 0
  | x :: r => uptoBulkEntry x + uptoBulkEntries r
def uptoBulkEntry {H : Type} : Lit × DataW H → Nat
  | (.string bytes, d) => bytes.length + uptoBulk d + 1
  | (_, d) => uptoBulk d + 1
 end
def uptoSmall : (H : Type) → List (DataW H) → Bool := fun _ ds => decide (uptoBulkAll ds ≤ 1048576)
def OpenSpec.upto (s : _root_.Go.ChangeSpec) : _root_.Go.OpenSpec := { _root_.Go.OpenSpec.ofChange s with cond := some uptoSmall }

/-- 'rifflelaw02.UtfBads', WHERE WHAT IT READS IS OF BULK AT MOST 1048576: true; the input reads as it did. -/
def utfBadsUptoRow : OpenClaim := { program := "ytjfoppmpiklfiab", sum := "80cc8f6cccab2e53cf69763f67568189a2686953c048b1da4eb406a9ae82a38d", func := "riffle/rifflelaw02.UtfBads", spec := "utfBads", apart := false, narrowed := true }
def UtfBadsUptoSaid : Prop := utfBadsUptoRow.holds Try.pinned (OpenSpec.upto utfBadsSpec)

/-- 'rifflelaw02.UtfParts', WHERE WHAT IT READS IS OF BULK AT MOST 1048576: true; the input reads as it did. -/
def utfPartsUptoRow : OpenClaim := { program := "ytjfoppmpiklfiab", sum := "80cc8f6cccab2e53cf69763f67568189a2686953c048b1da4eb406a9ae82a38d", func := "riffle/rifflelaw02.UtfParts", spec := "utfParts", apart := false, narrowed := true }
def UtfPartsUptoSaid : Prop := utfPartsUptoRow.holds Try.pinned (OpenSpec.upto utfPartsSpec)

/-- 'rifflelaw02.UtfWalks', WHERE WHAT IT READS IS OF BULK AT MOST 1048576: true; the input reads as it did. -/
def utfWalksUptoRow : OpenClaim := { program := "ytjfoppmpiklfiab", sum := "80cc8f6cccab2e53cf69763f67568189a2686953c048b1da4eb406a9ae82a38d", func := "riffle/rifflelaw02.UtfWalks", spec := "utfWalks", apart := false, narrowed := true }
def UtfWalksUptoSaid : Prop := utfWalksUptoRow.holds Try.pinned (OpenSpec.upto utfWalksSpec)

/-- 'rifflelaw04.NumeralWalks', WHERE WHAT IT READS IS OF BULK AT MOST 1048576: true; the input reads as it did. -/
def numeralWalksUptoRow : OpenClaim := { program := "ytjfoppmpiklfiab", sum := "80cc8f6cccab2e53cf69763f67568189a2686953c048b1da4eb406a9ae82a38d", func := "riffle/rifflelaw04.NumeralWalks", spec := "numeralWalks", apart := false, narrowed := true }
def NumeralWalksUptoSaid : Prop := numeralWalksUptoRow.holds Try.pinned (OpenSpec.upto numeralWalksSpec)

/-- 'rifflelaw04.NumeralTells', WHERE WHAT IT READS IS OF BULK AT MOST 1048576: true; the input reads as it did. -/
def numeralTellsUptoRow : OpenClaim := { program := "ytjfoppmpiklfiab", sum := "80cc8f6cccab2e53cf69763f67568189a2686953c048b1da4eb406a9ae82a38d", func := "riffle/rifflelaw04.NumeralTells", spec := "numeralTells", apart := false, narrowed := true }
def NumeralTellsUptoSaid : Prop := numeralTellsUptoRow.holds Try.pinned (OpenSpec.upto numeralTellsSpec)

/-- 'rifflelaw04.NumeralParts', WHERE WHAT IT READS IS OF BULK AT MOST 1048576: true; the input reads as it did. -/
def numeralPartsUptoRow : OpenClaim := { program := "ytjfoppmpiklfiab", sum := "80cc8f6cccab2e53cf69763f67568189a2686953c048b1da4eb406a9ae82a38d", func := "riffle/rifflelaw04.NumeralParts", spec := "numeralParts", apart := false, narrowed := true }
def NumeralPartsUptoSaid : Prop := numeralPartsUptoRow.holds Try.pinned (OpenSpec.upto numeralPartsSpec)

/-- 'rifflelaw18.TruthStays', WHERE WHAT IT READS IS OF BULK AT MOST 1048576: true; the input reads as it did. -/
def truthStaysUptoRow : OpenClaim := { program := "ytjfoppmpiklfiab", sum := "80cc8f6cccab2e53cf69763f67568189a2686953c048b1da4eb406a9ae82a38d", func := "riffle/rifflelaw18.TruthStays", spec := "truthStays", unfollowed := true, recurses := true, apart := false, narrowed := true }
def TruthStaysUptoSaid : Prop := truthStaysUptoRow.holds Try.pinned (OpenSpec.upto truthStaysSpec)

/-- 'rifflelaw18.TruthRuns', WHERE WHAT IT READS IS OF BULK AT MOST 1048576: true; the input reads as it did. -/
def truthRunsUptoRow : OpenClaim := { program := "ytjfoppmpiklfiab", sum := "80cc8f6cccab2e53cf69763f67568189a2686953c048b1da4eb406a9ae82a38d", func := "riffle/rifflelaw18.TruthRuns", spec := "truthRuns", unfollowed := true, recurses := true, apart := false, narrowed := true }
def TruthRunsUptoSaid : Prop := truthRunsUptoRow.holds Try.pinned (OpenSpec.upto truthRunsSpec)

/-- 'rifflelaw02.UtfPuts', WHERE WHAT IT READS IS OF BULK AT MOST 1048576: true; the input reads as it did. -/
def utfPutsUptoRow : OpenClaim := { program := "ytjfoppmpiklfiab", sum := "80cc8f6cccab2e53cf69763f67568189a2686953c048b1da4eb406a9ae82a38d", func := "riffle/rifflelaw02.UtfPuts", spec := "utfPuts", apart := false, narrowed := true }
def UtfPutsUptoSaid : Prop := utfPutsUptoRow.holds Try.pinned (OpenSpec.upto utfPutsSpec)

end Rows
end Go.Proofs.Ytjfoppmpiklfiab
