/-
  No cell of these rows narrows 'for every input' (looked for: loops, veiled, ifaces, maps, wideKeys, modest, calm, conditions, laid).
  DERIVED. THE GIVEN ROWS OF THIS SEAT. 10 by the template 'for every input the law returns true; each argument reads behind the call as it read before'; 0 by the template 'total and deterministic' (their statements: YtjfoppmpiklfiaaTotals.lean).
  GIVEN WITH THE SEED: the statements are not yours to turn. If you find one false, say at which input.
  Laid BY PROGRAM, IN A SANDBOX (cutbox-rows.mjs): the forced cells as the released guide's own fill.sh prints them over the translation 485e5915eba8ef8a… (all of the seat's roots in one cut). By AI agents, Wed Nov 11 2026. No macro, syntax, notation, axiom, sorry.
-/
import Derived.Test.YtjfoppmpiklfiaaChecked
import GoSem.Claim
import GoSem.ClaimJoined
import GoSem.ClaimMapViews
import Derived.JoinedTies
import Derived.KernelRfl
namespace Go.Proofs.Ytjfoppmpiklfiaa
/- THE CELL 'sum', in the pinned program and in every row, IS THE sha256 OF THE DUMP (.gsa) THAT YtjfoppmpiklfiaaProg.lean LOADS. Nothing in Lean hashes anything: it is a label: what it is worth is what the hold of that sum in a sandbox is worth. -/
noncomputable def Try.pinned : Pinned := { name := "ytjfoppmpiklfiaa", sum := "485e5915eba8ef8a8bf86426abc7abf19708d193206dec6836b0d5cf94c86189", checked := Try.checked }
namespace Rows
def none {H : Type} : Left H := { results := [], args := [] }

/-- 'rifflelaw08.BitsRuns': WHATEVER THE INPUT: true; the input reads as it did. -/
def bitsRunsSpec : ChangeSpec := { name := "bitsRuns", fn := fun _ => fun
  | [d] => { results := [.lit (.bool true)], args := [d] }
  | _ => none }
def bitsRunsRow : OpenClaim := { program := "ytjfoppmpiklfiaa", sum := "485e5915eba8ef8a8bf86426abc7abf19708d193206dec6836b0d5cf94c86189", func := "riffle/rifflelaw08.BitsRuns", spec := "bitsRuns", apart := false }
def BitsRunsSaid : Prop := bitsRunsRow.holds Try.pinned (OpenSpec.ofChange bitsRunsSpec)

/-- ITS FALSE NEIGHBOUR: 'it returns false'. Refute it at one input. -/
def bitsRunsWrong : ChangeSpec := { name := "bitsRuns", fn := fun _ => fun
  | [d] => { results := [.lit (.bool false)], args := [d] }
  | _ => none }
def BitsRunsWrongFalsely : Prop := bitsRunsRow.holds Try.pinned (OpenSpec.ofChange bitsRunsWrong)

/-- 'rifflelaw08.BitsBack': WHATEVER THE INPUT: true; the input reads as it did. -/
def bitsBackSpec : ChangeSpec := { name := "bitsBack", fn := fun _ => fun
  | [d] => { results := [.lit (.bool true)], args := [d] }
  | _ => none }
def bitsBackRow : OpenClaim := { program := "ytjfoppmpiklfiaa", sum := "485e5915eba8ef8a8bf86426abc7abf19708d193206dec6836b0d5cf94c86189", func := "riffle/rifflelaw08.BitsBack", spec := "bitsBack", apart := false }
def BitsBackSaid : Prop := bitsBackRow.holds Try.pinned (OpenSpec.ofChange bitsBackSpec)

/-- ITS FALSE NEIGHBOUR: 'it returns false'. Refute it at one input. -/
def bitsBackWrong : ChangeSpec := { name := "bitsBack", fn := fun _ => fun
  | [d] => { results := [.lit (.bool false)], args := [d] }
  | _ => none }
def BitsBackWrongFalsely : Prop := bitsBackRow.holds Try.pinned (OpenSpec.ofChange bitsBackWrong)

/-- 'rifflelaw03.CursorTwice': WHATEVER THE INPUT: true; the input reads as it did. -/
def cursorTwiceSpec : ChangeSpec := { name := "cursorTwice", fn := fun _ => fun
  | [d1, d2, d3] => { results := [.lit (.bool true)], args := [d1, d2, d3] }
  | _ => none }
def cursorTwiceRow : OpenClaim := { program := "ytjfoppmpiklfiaa", sum := "485e5915eba8ef8a8bf86426abc7abf19708d193206dec6836b0d5cf94c86189", func := "riffle/rifflelaw03.CursorTwice", spec := "cursorTwice", apart := false }
def CursorTwiceSaid : Prop := cursorTwiceRow.holds Try.pinned (OpenSpec.ofChange cursorTwiceSpec)

/-- ITS FALSE NEIGHBOUR: 'it returns false'. Refute it at one input. -/
def cursorTwiceWrong : ChangeSpec := { name := "cursorTwice", fn := fun _ => fun
  | [d1, d2, d3] => { results := [.lit (.bool false)], args := [d1, d2, d3] }
  | _ => none }
def CursorTwiceWrongFalsely : Prop := cursorTwiceRow.holds Try.pinned (OpenSpec.ofChange cursorTwiceWrong)

/-- 'rifflelaw01.OctetKinds': WHATEVER THE INPUT: true; the input reads as it did. -/
def octetKindsSpec : ChangeSpec := { name := "octetKinds", fn := fun _ => fun
  | [] => { results := [.lit (.bool true)], args := [] }
  | _ => none }
def octetKindsRow : OpenClaim := { program := "ytjfoppmpiklfiaa", sum := "485e5915eba8ef8a8bf86426abc7abf19708d193206dec6836b0d5cf94c86189", func := "riffle/rifflelaw01.OctetKinds", spec := "octetKinds", apart := false }
def OctetKindsSaid : Prop := octetKindsRow.holds Try.pinned (OpenSpec.ofChange octetKindsSpec)

/-- ITS FALSE NEIGHBOUR: 'it returns false'. Refute it at one input. -/
def octetKindsWrong : ChangeSpec := { name := "octetKinds", fn := fun _ => fun
  | [] => { results := [.lit (.bool false)], args := [] }
  | _ => none }
def OctetKindsWrongFalsely : Prop := octetKindsRow.holds Try.pinned (OpenSpec.ofChange octetKindsWrong)

/-- 'rifflelaw01.OctetTells': WHATEVER THE INPUT: true; the input reads as it did. -/
def octetTellsSpec : ChangeSpec := { name := "octetTells", fn := fun _ => fun
  | [d] => { results := [.lit (.bool true)], args := [d] }
  | _ => none }
def octetTellsRow : OpenClaim := { program := "ytjfoppmpiklfiaa", sum := "485e5915eba8ef8a8bf86426abc7abf19708d193206dec6836b0d5cf94c86189", func := "riffle/rifflelaw01.OctetTells", spec := "octetTells", apart := false }
def OctetTellsSaid : Prop := octetTellsRow.holds Try.pinned (OpenSpec.ofChange octetTellsSpec)

/-- ITS FALSE NEIGHBOUR: 'it returns false'. Refute it at one input. -/
def octetTellsWrong : ChangeSpec := { name := "octetTells", fn := fun _ => fun
  | [d] => { results := [.lit (.bool false)], args := [d] }
  | _ => none }
def OctetTellsWrongFalsely : Prop := octetTellsRow.holds Try.pinned (OpenSpec.ofChange octetTellsWrong)

/-- 'rifflelaw01.OctetSigns': WHATEVER THE INPUT: true; the input reads as it did. -/
def octetSignsSpec : ChangeSpec := { name := "octetSigns", fn := fun _ => fun
  | [d] => { results := [.lit (.bool true)], args := [d] }
  | _ => none }
def octetSignsRow : OpenClaim := { program := "ytjfoppmpiklfiaa", sum := "485e5915eba8ef8a8bf86426abc7abf19708d193206dec6836b0d5cf94c86189", func := "riffle/rifflelaw01.OctetSigns", spec := "octetSigns", apart := false }
def OctetSignsSaid : Prop := octetSignsRow.holds Try.pinned (OpenSpec.ofChange octetSignsSpec)

/-- ITS FALSE NEIGHBOUR: 'it returns false'. Refute it at one input. -/
def octetSignsWrong : ChangeSpec := { name := "octetSigns", fn := fun _ => fun
  | [d] => { results := [.lit (.bool false)], args := [d] }
  | _ => none }
def OctetSignsWrongFalsely : Prop := octetSignsRow.holds Try.pinned (OpenSpec.ofChange octetSignsWrong)

/-- 'rifflelaw12.SliceAlls': WHATEVER THE INPUT: true; the input reads as it did. -/
def sliceAllsSpec : ChangeSpec := { name := "sliceAlls", fn := fun _ => fun
  | [d1, d2] => { results := [.lit (.bool true)], args := [d1, d2] }
  | _ => none }
def sliceAllsRow : OpenClaim := { program := "ytjfoppmpiklfiaa", sum := "485e5915eba8ef8a8bf86426abc7abf19708d193206dec6836b0d5cf94c86189", func := "riffle/rifflelaw12.SliceAlls", spec := "sliceAlls", apart := false }
def SliceAllsSaid : Prop := sliceAllsRow.holds Try.pinned (OpenSpec.ofChange sliceAllsSpec)

/-- ITS FALSE NEIGHBOUR: 'it returns false'. Refute it at one input. -/
def sliceAllsWrong : ChangeSpec := { name := "sliceAlls", fn := fun _ => fun
  | [d1, d2] => { results := [.lit (.bool false)], args := [d1, d2] }
  | _ => none }
def SliceAllsWrongFalsely : Prop := sliceAllsRow.holds Try.pinned (OpenSpec.ofChange sliceAllsWrong)

/-- 'rifflelaw03.CursorCuts': WHATEVER THE INPUT: true; the input reads as it did. -/
def cursorCutsSpec : ChangeSpec := { name := "cursorCuts", fn := fun _ => fun
  | [d1, d2] => { results := [.lit (.bool true)], args := [d1, d2] }
  | _ => none }
def cursorCutsRow : OpenClaim := { program := "ytjfoppmpiklfiaa", sum := "485e5915eba8ef8a8bf86426abc7abf19708d193206dec6836b0d5cf94c86189", func := "riffle/rifflelaw03.CursorCuts", spec := "cursorCuts", apart := false }
def CursorCutsSaid : Prop := cursorCutsRow.holds Try.pinned (OpenSpec.ofChange cursorCutsSpec)

/-- ITS FALSE NEIGHBOUR: 'it returns false'. Refute it at one input. -/
def cursorCutsWrong : ChangeSpec := { name := "cursorCuts", fn := fun _ => fun
  | [d1, d2] => { results := [.lit (.bool false)], args := [d1, d2] }
  | _ => none }
def CursorCutsWrongFalsely : Prop := cursorCutsRow.holds Try.pinned (OpenSpec.ofChange cursorCutsWrong)

/-- 'rifflelaw12.SliceTells': WHATEVER THE INPUT: true; the input reads as it did. -/
def sliceTellsSpec : ChangeSpec := { name := "sliceTells", fn := fun _ => fun
  | [d1, d2, d3] => { results := [.lit (.bool true)], args := [d1, d2, d3] }
  | _ => none }
def sliceTellsRow : OpenClaim := { program := "ytjfoppmpiklfiaa", sum := "485e5915eba8ef8a8bf86426abc7abf19708d193206dec6836b0d5cf94c86189", func := "riffle/rifflelaw12.SliceTells", spec := "sliceTells", apart := false }
def SliceTellsSaid : Prop := sliceTellsRow.holds Try.pinned (OpenSpec.ofChange sliceTellsSpec)

/-- ITS FALSE NEIGHBOUR: 'it returns false'. Refute it at one input. -/
def sliceTellsWrong : ChangeSpec := { name := "sliceTells", fn := fun _ => fun
  | [d1, d2, d3] => { results := [.lit (.bool false)], args := [d1, d2, d3] }
  | _ => none }
def SliceTellsWrongFalsely : Prop := sliceTellsRow.holds Try.pinned (OpenSpec.ofChange sliceTellsWrong)

/-- 'rifflelaw12.SliceHangs': WHATEVER THE INPUT: true; the input reads as it did. -/
def sliceHangsSpec : ChangeSpec := { name := "sliceHangs", fn := fun _ => fun
  | [d1, d2, d3] => { results := [.lit (.bool true)], args := [d1, d2, d3] }
  | _ => none }
def sliceHangsRow : OpenClaim := { program := "ytjfoppmpiklfiaa", sum := "485e5915eba8ef8a8bf86426abc7abf19708d193206dec6836b0d5cf94c86189", func := "riffle/rifflelaw12.SliceHangs", spec := "sliceHangs", apart := false }
def SliceHangsSaid : Prop := sliceHangsRow.holds Try.pinned (OpenSpec.ofChange sliceHangsSpec)

/-- ITS FALSE NEIGHBOUR: 'it returns false'. Refute it at one input. -/
def sliceHangsWrong : ChangeSpec := { name := "sliceHangs", fn := fun _ => fun
  | [d1, d2, d3] => { results := [.lit (.bool false)], args := [d1, d2, d3] }
  | _ => none }
def SliceHangsWrongFalsely : Prop := sliceHangsRow.holds Try.pinned (OpenSpec.ofChange sliceHangsWrong)

/- THE SECOND FORM. 'bulk': how many values and letters a reading holds, each counted each time it is reached (what is shared counts as often as it is met; a slice's spare places count too). A statement '..UptoSaid' is the law's where the arguments, and the package variables that the reading takes, are together of bulk at most 1048576: NARROWER than '..Said'. Prove '..Said' where nothing that the law and all that it calls make is longer than what came in: it says more and counts as full. Else prove '..UptoSaid'. A law counts once. -/
mutual
def uptoBulk {H : Type} : DataW H → Nat
  | .lit (.string bytes) => bytes.length + 1
  | .lit _ => 1
  | .nil => 1
  | .ptr d => uptoBulk d + 1
  | .slice elems spare => uptoBulkAll elems + uptoBulkAll spare + 1
  | .agg parts => uptoBulkAll parts + 1
  | .iface _ d => uptoBulk d + 1
  | .map entries => uptoBulkEntries entries + 1
  | .held _ => 1
def uptoBulkAll {H : Type} : List (DataW H) → Nat
  | [] => 0
  | d :: r => uptoBulk d + uptoBulkAll r
def uptoBulkEntries {H : Type} : List (Lit × DataW H) → Nat
  | [] => 0
  | x :: r => uptoBulkEntry x + uptoBulkEntries r
def uptoBulkEntry {H : Type} : Lit × DataW H → Nat
  | (.string bytes, d) => bytes.length + uptoBulk d + 1
  | (_, d) => uptoBulk d + 1
 end
def uptoSmall : (H : Type) → List (DataW H) → Bool := fun _ ds => decide (uptoBulkAll ds ≤ 1048576)
def OpenSpec.upto (s : _root_.Go.ChangeSpec) : _root_.Go.OpenSpec := { _root_.Go.OpenSpec.ofChange s with cond := some uptoSmall }

/-- 'rifflelaw08.BitsRuns', WHERE WHAT IT READS IS OF BULK AT MOST 1048576: true; the input reads as it did. -/
def bitsRunsUptoRow : OpenClaim := { program := "ytjfoppmpiklfiaa", sum := "485e5915eba8ef8a8bf86426abc7abf19708d193206dec6836b0d5cf94c86189", func := "riffle/rifflelaw08.BitsRuns", spec := "bitsRuns", apart := false, narrowed := true }
def BitsRunsUptoSaid : Prop := bitsRunsUptoRow.holds Try.pinned (OpenSpec.upto bitsRunsSpec)

/-- 'rifflelaw08.BitsBack', WHERE WHAT IT READS IS OF BULK AT MOST 1048576: true; the input reads as it did. -/
def bitsBackUptoRow : OpenClaim := { program := "ytjfoppmpiklfiaa", sum := "485e5915eba8ef8a8bf86426abc7abf19708d193206dec6836b0d5cf94c86189", func := "riffle/rifflelaw08.BitsBack", spec := "bitsBack", apart := false, narrowed := true }
def BitsBackUptoSaid : Prop := bitsBackUptoRow.holds Try.pinned (OpenSpec.upto bitsBackSpec)

/-- 'rifflelaw03.CursorTwice', WHERE WHAT IT READS IS OF BULK AT MOST 1048576: true; the input reads as it did. -/
def cursorTwiceUptoRow : OpenClaim := { program := "ytjfoppmpiklfiaa", sum := "485e5915eba8ef8a8bf86426abc7abf19708d193206dec6836b0d5cf94c86189", func := "riffle/rifflelaw03.CursorTwice", spec := "cursorTwice", apart := false, narrowed := true }
def CursorTwiceUptoSaid : Prop := cursorTwiceUptoRow.holds Try.pinned (OpenSpec.upto cursorTwiceSpec)

/-- 'rifflelaw01.OctetKinds', WHERE WHAT IT READS IS OF BULK AT MOST 1048576: true; the input reads as it did. -/
def octetKindsUptoRow : OpenClaim := { program := "ytjfoppmpiklfiaa", sum := "485e5915eba8ef8a8bf86426abc7abf19708d193206dec6836b0d5cf94c86189", func := "riffle/rifflelaw01.OctetKinds", spec := "octetKinds", apart := false, narrowed := true }
def OctetKindsUptoSaid : Prop := octetKindsUptoRow.holds Try.pinned (OpenSpec.upto octetKindsSpec)

/-- 'rifflelaw01.OctetTells', WHERE WHAT IT READS IS OF BULK AT MOST 1048576: true; the input reads as it did. -/
def octetTellsUptoRow : OpenClaim := { program := "ytjfoppmpiklfiaa", sum := "485e5915eba8ef8a8bf86426abc7abf19708d193206dec6836b0d5cf94c86189", func := "riffle/rifflelaw01.OctetTells", spec := "octetTells", apart := false, narrowed := true }
def OctetTellsUptoSaid : Prop := octetTellsUptoRow.holds Try.pinned (OpenSpec.upto octetTellsSpec)

/-- 'rifflelaw01.OctetSigns', WHERE WHAT IT READS IS OF BULK AT MOST 1048576: true; the input reads as it did. -/
def octetSignsUptoRow : OpenClaim := { program := "ytjfoppmpiklfiaa", sum := "485e5915eba8ef8a8bf86426abc7abf19708d193206dec6836b0d5cf94c86189", func := "riffle/rifflelaw01.OctetSigns", spec := "octetSigns", apart := false, narrowed := true }
def OctetSignsUptoSaid : Prop := octetSignsUptoRow.holds Try.pinned (OpenSpec.upto octetSignsSpec)

/-- 'rifflelaw12.SliceAlls', WHERE WHAT IT READS IS OF BULK AT MOST 1048576: true; the input reads as it did. -/
def sliceAllsUptoRow : OpenClaim := { program := "ytjfoppmpiklfiaa", sum := "485e5915eba8ef8a8bf86426abc7abf19708d193206dec6836b0d5cf94c86189", func := "riffle/rifflelaw12.SliceAlls", spec := "sliceAlls", apart := false, narrowed := true }
def SliceAllsUptoSaid : Prop := sliceAllsUptoRow.holds Try.pinned (OpenSpec.upto sliceAllsSpec)

/-- 'rifflelaw03.CursorCuts', WHERE WHAT IT READS IS OF BULK AT MOST 1048576: true; the input reads as it did. -/
def cursorCutsUptoRow : OpenClaim := { program := "ytjfoppmpiklfiaa", sum := "485e5915eba8ef8a8bf86426abc7abf19708d193206dec6836b0d5cf94c86189", func := "riffle/rifflelaw03.CursorCuts", spec := "cursorCuts", apart := false, narrowed := true }
def CursorCutsUptoSaid : Prop := cursorCutsUptoRow.holds Try.pinned (OpenSpec.upto cursorCutsSpec)

/-- 'rifflelaw12.SliceTells', WHERE WHAT IT READS IS OF BULK AT MOST 1048576: true; the input reads as it did. -/
def sliceTellsUptoRow : OpenClaim := { program := "ytjfoppmpiklfiaa", sum := "485e5915eba8ef8a8bf86426abc7abf19708d193206dec6836b0d5cf94c86189", func := "riffle/rifflelaw12.SliceTells", spec := "sliceTells", apart := false, narrowed := true }
def SliceTellsUptoSaid : Prop := sliceTellsUptoRow.holds Try.pinned (OpenSpec.upto sliceTellsSpec)

/-- 'rifflelaw12.SliceHangs', WHERE WHAT IT READS IS OF BULK AT MOST 1048576: true; the input reads as it did. -/
def sliceHangsUptoRow : OpenClaim := { program := "ytjfoppmpiklfiaa", sum := "485e5915eba8ef8a8bf86426abc7abf19708d193206dec6836b0d5cf94c86189", func := "riffle/rifflelaw12.SliceHangs", spec := "sliceHangs", apart := false, narrowed := true }
def SliceHangsUptoSaid : Prop := sliceHangsUptoRow.holds Try.pinned (OpenSpec.upto sliceHangsSpec)

end Rows
end Go.Proofs.Ytjfoppmpiklfiaa
