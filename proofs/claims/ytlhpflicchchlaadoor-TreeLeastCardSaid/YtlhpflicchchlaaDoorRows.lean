/-
  NARROWER THAN 'FOR EVERY INPUT', by the rows' own cells (each row's printed sentence says how): PathPuts: laid · LexSpans: laid · WriteSteps: laid · WriteTells: laid · NestPairs: laid · TreeLeast: laid · TreeSpans: laid · PathParses: laid.
  DERIVED. THE GIVEN ROWS OF THIS SEAT. 8 by the template 'for every input the law returns true; each argument reads behind the call as it read before'; 0 by the template 'total and deterministic' (their statements: YtlhpflicchchlaaDoorTotals.lean).
  GIVEN WITH THE SEED: the statements are not yours to turn. If you find one false, say at which input.
  Laid BY PROGRAM, IN A SANDBOX (cutbox-rows.mjs): the forced cells as the released guide's own fill.sh prints them over the translation 85ebbaa8b141c064… (all of the seat's roots in one cut). By AI agents, Wed Nov 11 2026. No macro, syntax, notation, axiom, sorry.
-/
import Derived.Test.YtlhpflicchchlaaDoorChecked
import GoSem.Claim
import GoSem.ClaimJoined
import GoSem.ClaimMapViews
import Derived.JoinedTies
import Derived.KernelRfl
namespace Go.Proofs.YtlhpflicchchlaaDoor
/- THE CELL 'sum', in the pinned program and in every row, IS THE sha256 OF THE DUMP (.gsa) THAT YtlhpflicchchlaaDoorProg.lean LOADS. Nothing in Lean hashes anything: it is a label: what it is worth is what the hold of that sum in a sandbox is worth. -/
noncomputable def Tryd.pinned : Pinned := { name := "ytlhpflicchchlaadoor", sum := "85ebbaa8b141c0647ec79fe97df499aa2e22dd50b1faf899651fbfc9c47708f2", checked := Tryd.checked }
namespace Rows
def none {H : Type} : Left H := { results := [], args := [] }

/- WHAT THE LISTED PACKAGE-LEVEL VARIABLES READ AS WHEN THE CALL BEGINS. Each datum BY PROGRAM (the guide's laid-datum.mjs) off the statement by which the dump's own 'gosem.cut.vars' lays the variable. In a bare row this is a premise. The card (YtlhpflicchchlaaDoorCards.lean) ties it to the program's text. -/
def laid_math_bits_deBruijn32tab {H : Type} : DataW H := .agg [.lit (.int .u8 0), .lit (.int .u8 1), .lit (.int .u8 28), .lit (.int .u8 2), .lit (.int .u8 29), .lit (.int .u8 14), .lit (.int .u8 24), .lit (.int .u8 3), .lit (.int .u8 30), .lit (.int .u8 22), .lit (.int .u8 20), .lit (.int .u8 15), .lit (.int .u8 25), .lit (.int .u8 17), .lit (.int .u8 4), .lit (.int .u8 8), .lit (.int .u8 31), .lit (.int .u8 27), .lit (.int .u8 13), .lit (.int .u8 23), .lit (.int .u8 21), .lit (.int .u8 19), .lit (.int .u8 16), .lit (.int .u8 7), .lit (.int .u8 26), .lit (.int .u8 12), .lit (.int .u8 18), .lit (.int .u8 6), .lit (.int .u8 11), .lit (.int .u8 5), .lit (.int .u8 10), .lit (.int .u8 9)]
def laid_math_bits_deBruijn64tab {H : Type} : DataW H := .agg [.lit (.int .u8 0), .lit (.int .u8 1), .lit (.int .u8 56), .lit (.int .u8 2), .lit (.int .u8 57), .lit (.int .u8 49), .lit (.int .u8 28), .lit (.int .u8 3), .lit (.int .u8 61), .lit (.int .u8 58), .lit (.int .u8 42), .lit (.int .u8 50), .lit (.int .u8 38), .lit (.int .u8 29), .lit (.int .u8 17), .lit (.int .u8 4), .lit (.int .u8 62), .lit (.int .u8 47), .lit (.int .u8 59), .lit (.int .u8 36), .lit (.int .u8 45), .lit (.int .u8 43), .lit (.int .u8 51), .lit (.int .u8 22), .lit (.int .u8 53), .lit (.int .u8 39), .lit (.int .u8 33), .lit (.int .u8 30), .lit (.int .u8 24), .lit (.int .u8 18), .lit (.int .u8 12), .lit (.int .u8 5), .lit (.int .u8 63), .lit (.int .u8 55), .lit (.int .u8 48), .lit (.int .u8 27), .lit (.int .u8 60), .lit (.int .u8 41), .lit (.int .u8 37), .lit (.int .u8 16), .lit (.int .u8 46), .lit (.int .u8 35), .lit (.int .u8 44), .lit (.int .u8 21), .lit (.int .u8 52), .lit (.int .u8 32), .lit (.int .u8 23), .lit (.int .u8 11), .lit (.int .u8 54), .lit (.int .u8 26), .lit (.int .u8 40), .lit (.int .u8 15), .lit (.int .u8 34), .lit (.int .u8 20), .lit (.int .u8 31), .lit (.int .u8 10), .lit (.int .u8 25), .lit (.int .u8 14), .lit (.int .u8 19), .lit (.int .u8 9), .lit (.int .u8 13), .lit (.int .u8 8), .lit (.int .u8 7), .lit (.int .u8 6)]
def laid_internal_strconv_uint64pow10 {H : Type} : DataW H := .agg [.lit (.int .u64 1), .lit (.int .u64 10), .lit (.int .u64 100), .lit (.int .u64 1000), .lit (.int .u64 10000), .lit (.int .u64 100000), .lit (.int .u64 1000000), .lit (.int .u64 10000000), .lit (.int .u64 100000000), .lit (.int .u64 1000000000), .lit (.int .u64 10000000000), .lit (.int .u64 100000000000), .lit (.int .u64 1000000000000), .lit (.int .u64 10000000000000), .lit (.int .u64 100000000000000), .lit (.int .u64 1000000000000000), .lit (.int .u64 10000000000000000), .lit (.int .u64 100000000000000000), .lit (.int .u64 1000000000000000000), .lit (.int .u64 10000000000000000000)]
def laid_riffle_literal_words {H : Type} : DataW H := .agg [.lit (.string [116, 114, 117, 101]), .lit (.string [102, 97, 108, 115, 101]), .lit (.string [110, 117, 108, 108])]
def laid_strconv_ErrRange {H : Type} : DataW H := .iface "*errors.errorString" (.ptr (.agg [.lit (.string [118, 97, 108, 117, 101, 32, 111, 117, 116, 32, 111, 102, 32, 114, 97, 110, 103, 101])]))
def laid_strconv_ErrSyntax {H : Type} : DataW H := .iface "*errors.errorString" (.ptr (.agg [.lit (.string [105, 110, 118, 97, 108, 105, 100, 32, 115, 121, 110, 116, 97, 120])]))

/-- 'rifflelaw13.PathPuts': WHATEVER THE INPUT: true; the input reads as it did. -/
def pathPutsSpec : ChangeSpec := { name := "pathPuts", fn := fun _ => fun
  | [d1, d2] => { results := [.lit (.bool true)], args := [d1, d2] }
  | _ => none }
def pathPutsRow : OpenClaim := { program := "ytlhpflicchchlaadoor", sum := "85ebbaa8b141c0647ec79fe97df499aa2e22dd50b1faf899651fbfc9c47708f2", func := "riffle/rifflelaw13.PathPuts", spec := "pathPuts", inPlace := ["internal/abi.NoEscape"], recurses := true, named := ["internal/strconv.uint64pow10", "math/bits.deBruijn32tab", "math/bits.deBruijn64tab"], apart := false, laid := [("math/bits.deBruijn32tab", laid_math_bits_deBruijn32tab), ("math/bits.deBruijn64tab", laid_math_bits_deBruijn64tab), ("internal/strconv.uint64pow10", laid_internal_strconv_uint64pow10)] }
def PathPutsSaid : Prop := pathPutsRow.holds Tryd.pinned (OpenSpec.ofChange pathPutsSpec)

/-- ITS FALSE NEIGHBOUR: 'it returns false'. Refute it at one input. -/
def pathPutsWrong : ChangeSpec := { name := "pathPuts", fn := fun _ => fun
  | [d1, d2] => { results := [.lit (.bool false)], args := [d1, d2] }
  | _ => none }
def PathPutsWrongFalsely : Prop := pathPutsRow.holds Tryd.pinned (OpenSpec.ofChange pathPutsWrong)

/-- 'rifflelaw07.LexSpans': WHATEVER THE INPUT: true; the input reads as it did. -/
def lexSpansSpec : ChangeSpec := { name := "lexSpans", fn := fun _ => fun
  | [d] => { results := [.lit (.bool true)], args := [d] }
  | _ => none }
def lexSpansRow : OpenClaim := { program := "ytlhpflicchchlaadoor", sum := "85ebbaa8b141c0647ec79fe97df499aa2e22dd50b1faf899651fbfc9c47708f2", func := "riffle/rifflelaw07.LexSpans", spec := "lexSpans", named := ["riffle/literal.words"], apart := false, laid := [("riffle/literal.words", laid_riffle_literal_words)] }
def LexSpansSaid : Prop := lexSpansRow.holds Tryd.pinned (OpenSpec.ofChange lexSpansSpec)

/-- ITS FALSE NEIGHBOUR: 'it returns false'. Refute it at one input. -/
def lexSpansWrong : ChangeSpec := { name := "lexSpans", fn := fun _ => fun
  | [d] => { results := [.lit (.bool false)], args := [d] }
  | _ => none }
def LexSpansWrongFalsely : Prop := lexSpansRow.holds Tryd.pinned (OpenSpec.ofChange lexSpansWrong)

/-- 'rifflelaw15.WriteSteps': WHATEVER THE INPUT: true; the input reads as it did. -/
def writeStepsSpec : ChangeSpec := { name := "writeSteps", fn := fun _ => fun
  | [d] => { results := [.lit (.bool true)], args := [d] }
  | _ => none }
def writeStepsRow : OpenClaim := { program := "ytlhpflicchchlaadoor", sum := "85ebbaa8b141c0647ec79fe97df499aa2e22dd50b1faf899651fbfc9c47708f2", func := "riffle/rifflelaw15.WriteSteps", spec := "writeSteps", inPlace := ["internal/abi.NoEscape", "internal/bytealg.MakeNoZero"], unfollowed := true, recurses := true, named := ["internal/strconv.uint64pow10", "math/bits.deBruijn32tab", "math/bits.deBruijn64tab"], apart := false, laid := [("math/bits.deBruijn32tab", laid_math_bits_deBruijn32tab), ("math/bits.deBruijn64tab", laid_math_bits_deBruijn64tab), ("internal/strconv.uint64pow10", laid_internal_strconv_uint64pow10)] }
def WriteStepsSaid : Prop := writeStepsRow.holds Tryd.pinned (OpenSpec.ofChange writeStepsSpec)

/-- ITS FALSE NEIGHBOUR: 'it returns false'. Refute it at one input. -/
def writeStepsWrong : ChangeSpec := { name := "writeSteps", fn := fun _ => fun
  | [d] => { results := [.lit (.bool false)], args := [d] }
  | _ => none }
def WriteStepsWrongFalsely : Prop := writeStepsRow.holds Tryd.pinned (OpenSpec.ofChange writeStepsWrong)

/-- 'rifflelaw15.WriteTells': WHATEVER THE INPUT: true; the input reads as it did. -/
def writeTellsSpec : ChangeSpec := { name := "writeTells", fn := fun _ => fun
  | [d1, d2] => { results := [.lit (.bool true)], args := [d1, d2] }
  | _ => none }
def writeTellsRow : OpenClaim := { program := "ytlhpflicchchlaadoor", sum := "85ebbaa8b141c0647ec79fe97df499aa2e22dd50b1faf899651fbfc9c47708f2", func := "riffle/rifflelaw15.WriteTells", spec := "writeTells", inPlace := ["internal/abi.NoEscape", "internal/bytealg.MakeNoZero"], unfollowed := true, recurses := true, named := ["internal/strconv.uint64pow10", "math/bits.deBruijn32tab", "math/bits.deBruijn64tab"], apart := false, laid := [("math/bits.deBruijn32tab", laid_math_bits_deBruijn32tab), ("math/bits.deBruijn64tab", laid_math_bits_deBruijn64tab), ("internal/strconv.uint64pow10", laid_internal_strconv_uint64pow10)] }
def WriteTellsSaid : Prop := writeTellsRow.holds Tryd.pinned (OpenSpec.ofChange writeTellsSpec)

/-- ITS FALSE NEIGHBOUR: 'it returns false'. Refute it at one input. -/
def writeTellsWrong : ChangeSpec := { name := "writeTells", fn := fun _ => fun
  | [d1, d2] => { results := [.lit (.bool false)], args := [d1, d2] }
  | _ => none }
def WriteTellsWrongFalsely : Prop := writeTellsRow.holds Tryd.pinned (OpenSpec.ofChange writeTellsWrong)

/-- 'rifflelaw09.NestPairs': WHATEVER THE INPUT: true; the input reads as it did. -/
def nestPairsSpec : ChangeSpec := { name := "nestPairs", fn := fun _ => fun
  | [d1, d2] => { results := [.lit (.bool true)], args := [d1, d2] }
  | _ => none }
def nestPairsRow : OpenClaim := { program := "ytlhpflicchchlaadoor", sum := "85ebbaa8b141c0647ec79fe97df499aa2e22dd50b1faf899651fbfc9c47708f2", func := "riffle/rifflelaw09.NestPairs", spec := "nestPairs", named := ["riffle/literal.words"], apart := false, laid := [("riffle/literal.words", laid_riffle_literal_words)] }
def NestPairsSaid : Prop := nestPairsRow.holds Tryd.pinned (OpenSpec.ofChange nestPairsSpec)

/-- ITS FALSE NEIGHBOUR: 'it returns false'. Refute it at one input. -/
def nestPairsWrong : ChangeSpec := { name := "nestPairs", fn := fun _ => fun
  | [d1, d2] => { results := [.lit (.bool false)], args := [d1, d2] }
  | _ => none }
def NestPairsWrongFalsely : Prop := nestPairsRow.holds Tryd.pinned (OpenSpec.ofChange nestPairsWrong)

/-- 'rifflelaw10.TreeLeast': WHATEVER THE INPUT: true; the input reads as it did. -/
def treeLeastSpec : ChangeSpec := { name := "treeLeast", fn := fun _ => fun
  | [d1, d2] => { results := [.lit (.bool true)], args := [d1, d2] }
  | _ => none }
def treeLeastRow : OpenClaim := { program := "ytlhpflicchchlaadoor", sum := "85ebbaa8b141c0647ec79fe97df499aa2e22dd50b1faf899651fbfc9c47708f2", func := "riffle/rifflelaw10.TreeLeast", spec := "treeLeast", unfollowed := true, recurses := true, named := ["riffle/literal.words"], apart := false, laid := [("riffle/literal.words", laid_riffle_literal_words)] }
def TreeLeastSaid : Prop := treeLeastRow.holds Tryd.pinned (OpenSpec.ofChange treeLeastSpec)

/-- ITS FALSE NEIGHBOUR: 'it returns false'. Refute it at one input. -/
def treeLeastWrong : ChangeSpec := { name := "treeLeast", fn := fun _ => fun
  | [d1, d2] => { results := [.lit (.bool false)], args := [d1, d2] }
  | _ => none }
def TreeLeastWrongFalsely : Prop := treeLeastRow.holds Tryd.pinned (OpenSpec.ofChange treeLeastWrong)

/-- 'rifflelaw10.TreeSpans': WHATEVER THE INPUT: true; the input reads as it did. -/
def treeSpansSpec : ChangeSpec := { name := "treeSpans", fn := fun _ => fun
  | [d] => { results := [.lit (.bool true)], args := [d] }
  | _ => none }
def treeSpansRow : OpenClaim := { program := "ytlhpflicchchlaadoor", sum := "85ebbaa8b141c0647ec79fe97df499aa2e22dd50b1faf899651fbfc9c47708f2", func := "riffle/rifflelaw10.TreeSpans", spec := "treeSpans", unfollowed := true, recurses := true, named := ["riffle/literal.words"], apart := false, laid := [("riffle/literal.words", laid_riffle_literal_words)] }
def TreeSpansSaid : Prop := treeSpansRow.holds Tryd.pinned (OpenSpec.ofChange treeSpansSpec)

/-- ITS FALSE NEIGHBOUR: 'it returns false'. Refute it at one input. -/
def treeSpansWrong : ChangeSpec := { name := "treeSpans", fn := fun _ => fun
  | [d] => { results := [.lit (.bool false)], args := [d] }
  | _ => none }
def TreeSpansWrongFalsely : Prop := treeSpansRow.holds Tryd.pinned (OpenSpec.ofChange treeSpansWrong)

/-- 'rifflelaw13.PathParses': WHATEVER THE INPUT: true; the input reads as it did. -/
def pathParsesSpec : ChangeSpec := { name := "pathParses", fn := fun _ => fun
  | [d] => { results := [.lit (.bool true)], args := [d] }
  | _ => none }
def pathParsesRow : OpenClaim := { program := "ytlhpflicchchlaadoor", sum := "85ebbaa8b141c0647ec79fe97df499aa2e22dd50b1faf899651fbfc9c47708f2", func := "riffle/rifflelaw13.PathParses", spec := "pathParses", inPlace := ["internal/abi.NoEscape", "internal/bytealg.IndexByteString"], named := ["internal/strconv.uint64pow10", "math/bits.deBruijn32tab", "math/bits.deBruijn64tab", "strconv.ErrSyntax", "strconv.ErrRange"], apart := false, laid := [("math/bits.deBruijn32tab", laid_math_bits_deBruijn32tab), ("math/bits.deBruijn64tab", laid_math_bits_deBruijn64tab), ("internal/strconv.uint64pow10", laid_internal_strconv_uint64pow10), ("strconv.ErrRange", laid_strconv_ErrRange), ("strconv.ErrSyntax", laid_strconv_ErrSyntax)] }
def PathParsesSaid : Prop := pathParsesRow.holds Tryd.pinned (OpenSpec.ofChange pathParsesSpec)

/-- ITS FALSE NEIGHBOUR: 'it returns false'. Refute it at one input. -/
def pathParsesWrong : ChangeSpec := { name := "pathParses", fn := fun _ => fun
  | [d] => { results := [.lit (.bool false)], args := [d] }
  | _ => none }
def PathParsesWrongFalsely : Prop := pathParsesRow.holds Tryd.pinned (OpenSpec.ofChange pathParsesWrong)

/- THE SECOND FORM. 'bulk': how many values and letters a reading holds, each counted each time it is reached (what is shared counts as often as it is met; a slice's spare places count too). A statement '..UptoSaid' is the law's where the arguments, and the package variables that the reading takes, are together of bulk at most 1048576: NARROWER than '..Said'. Prove '..Said' where nothing that the law and all that it calls make is longer than what came in: it says more and counts as full. Else prove '..UptoSaid'. A law counts once. -/
mutual
def uptoBulk {H : Type} : DataW H → Nat
  | .lit (.string bytes) => bytes.length + 1
  | .lit _ => 1
  | .nil => 1
  | .ptr d => uptoBulk d + 1
  | .slice elems spare => uptoBulkAll elems + uptoBulkAll spare + 1
  | .agg parts => uptoBulkAll parts + 1
  | .iface _ d => uptoBulk d + 1
  | .map entries => uptoBulkEntries entries + 1
  | .held _ => 1
def uptoBulkAll {H : Type} : List (DataW H) → Nat
  | [] => 0
  | d :: r => uptoBulk d + uptoBulkAll r
def uptoBulkEntries {H : Type} : List (Lit × DataW H) → Nat
  | [] => 0
  | x :: r => uptoBulkEntry x + uptoBulkEntries r
def uptoBulkEntry {H : Type} : Lit × DataW H → Nat
  | (.string bytes, d) => bytes.length + uptoBulk d + 1
  | (_, d) => uptoBulk d + 1
 end
def uptoSmall : (H : Type) → List (DataW H) → Bool := fun _ ds => decide (uptoBulkAll ds ≤ 1048576)
def OpenSpec.upto (s : _root_.Go.ChangeSpec) : _root_.Go.OpenSpec := { _root_.Go.OpenSpec.ofChange s with cond := some uptoSmall }

/-- 'rifflelaw13.PathPuts', WHERE WHAT IT READS IS OF BULK AT MOST 1048576: true; the input reads as it did. -/
def pathPutsUptoRow : OpenClaim := { program := "ytlhpflicchchlaadoor", sum := "85ebbaa8b141c0647ec79fe97df499aa2e22dd50b1faf899651fbfc9c47708f2", func := "riffle/rifflelaw13.PathPuts", spec := "pathPuts", inPlace := ["internal/abi.NoEscape"], recurses := true, named := ["internal/strconv.uint64pow10", "math/bits.deBruijn32tab", "math/bits.deBruijn64tab"], apart := false, laid := [("math/bits.deBruijn32tab", laid_math_bits_deBruijn32tab), ("math/bits.deBruijn64tab", laid_math_bits_deBruijn64tab), ("internal/strconv.uint64pow10", laid_internal_strconv_uint64pow10)], narrowed := true }
def PathPutsUptoSaid : Prop := pathPutsUptoRow.holds Tryd.pinned (OpenSpec.upto pathPutsSpec)

/-- 'rifflelaw07.LexSpans', WHERE WHAT IT READS IS OF BULK AT MOST 1048576: true; the input reads as it did. -/
def lexSpansUptoRow : OpenClaim := { program := "ytlhpflicchchlaadoor", sum := "85ebbaa8b141c0647ec79fe97df499aa2e22dd50b1faf899651fbfc9c47708f2", func := "riffle/rifflelaw07.LexSpans", spec := "lexSpans", named := ["riffle/literal.words"], apart := false, laid := [("riffle/literal.words", laid_riffle_literal_words)], narrowed := true }
def LexSpansUptoSaid : Prop := lexSpansUptoRow.holds Tryd.pinned (OpenSpec.upto lexSpansSpec)

/-- 'rifflelaw15.WriteSteps', WHERE WHAT IT READS IS OF BULK AT MOST 1048576: true; the input reads as it did. -/
def writeStepsUptoRow : OpenClaim := { program := "ytlhpflicchchlaadoor", sum := "85ebbaa8b141c0647ec79fe97df499aa2e22dd50b1faf899651fbfc9c47708f2", func := "riffle/rifflelaw15.WriteSteps", spec := "writeSteps", inPlace := ["internal/abi.NoEscape", "internal/bytealg.MakeNoZero"], unfollowed := true, recurses := true, named := ["internal/strconv.uint64pow10", "math/bits.deBruijn32tab", "math/bits.deBruijn64tab"], apart := false, laid := [("math/bits.deBruijn32tab", laid_math_bits_deBruijn32tab), ("math/bits.deBruijn64tab", laid_math_bits_deBruijn64tab), ("internal/strconv.uint64pow10", laid_internal_strconv_uint64pow10)], narrowed := true }
def WriteStepsUptoSaid : Prop := writeStepsUptoRow.holds Tryd.pinned (OpenSpec.upto writeStepsSpec)

/-- 'rifflelaw15.WriteTells', WHERE WHAT IT READS IS OF BULK AT MOST 1048576: true; the input reads as it did. -/
def writeTellsUptoRow : OpenClaim := { program := "ytlhpflicchchlaadoor", sum := "85ebbaa8b141c0647ec79fe97df499aa2e22dd50b1faf899651fbfc9c47708f2", func := "riffle/rifflelaw15.WriteTells", spec := "writeTells", inPlace := ["internal/abi.NoEscape", "internal/bytealg.MakeNoZero"], unfollowed := true, recurses := true, named := ["internal/strconv.uint64pow10", "math/bits.deBruijn32tab", "math/bits.deBruijn64tab"], apart := false, laid := [("math/bits.deBruijn32tab", laid_math_bits_deBruijn32tab), ("math/bits.deBruijn64tab", laid_math_bits_deBruijn64tab), ("internal/strconv.uint64pow10", laid_internal_strconv_uint64pow10)], narrowed := true }
def WriteTellsUptoSaid : Prop := writeTellsUptoRow.holds Tryd.pinned (OpenSpec.upto writeTellsSpec)

/-- 'rifflelaw09.NestPairs', WHERE WHAT IT READS IS OF BULK AT MOST 1048576: true; the input reads as it did. -/
def nestPairsUptoRow : OpenClaim := { program := "ytlhpflicchchlaadoor", sum := "85ebbaa8b141c0647ec79fe97df499aa2e22dd50b1faf899651fbfc9c47708f2", func := "riffle/rifflelaw09.NestPairs", spec := "nestPairs", named := ["riffle/literal.words"], apart := false, laid := [("riffle/literal.words", laid_riffle_literal_words)], narrowed := true }
def NestPairsUptoSaid : Prop := nestPairsUptoRow.holds Tryd.pinned (OpenSpec.upto nestPairsSpec)

/-- 'rifflelaw10.TreeLeast', WHERE WHAT IT READS IS OF BULK AT MOST 1048576: true; the input reads as it did. -/
def treeLeastUptoRow : OpenClaim := { program := "ytlhpflicchchlaadoor", sum := "85ebbaa8b141c0647ec79fe97df499aa2e22dd50b1faf899651fbfc9c47708f2", func := "riffle/rifflelaw10.TreeLeast", spec := "treeLeast", unfollowed := true, recurses := true, named := ["riffle/literal.words"], apart := false, laid := [("riffle/literal.words", laid_riffle_literal_words)], narrowed := true }
def TreeLeastUptoSaid : Prop := treeLeastUptoRow.holds Tryd.pinned (OpenSpec.upto treeLeastSpec)

/-- 'rifflelaw10.TreeSpans', WHERE WHAT IT READS IS OF BULK AT MOST 1048576: true; the input reads as it did. -/
def treeSpansUptoRow : OpenClaim := { program := "ytlhpflicchchlaadoor", sum := "85ebbaa8b141c0647ec79fe97df499aa2e22dd50b1faf899651fbfc9c47708f2", func := "riffle/rifflelaw10.TreeSpans", spec := "treeSpans", unfollowed := true, recurses := true, named := ["riffle/literal.words"], apart := false, laid := [("riffle/literal.words", laid_riffle_literal_words)], narrowed := true }
def TreeSpansUptoSaid : Prop := treeSpansUptoRow.holds Tryd.pinned (OpenSpec.upto treeSpansSpec)

/-- 'rifflelaw13.PathParses', WHERE WHAT IT READS IS OF BULK AT MOST 1048576: true; the input reads as it did. -/
def pathParsesUptoRow : OpenClaim := { program := "ytlhpflicchchlaadoor", sum := "85ebbaa8b141c0647ec79fe97df499aa2e22dd50b1faf899651fbfc9c47708f2", func := "riffle/rifflelaw13.PathParses", spec := "pathParses", inPlace := ["internal/abi.NoEscape", "internal/bytealg.IndexByteString"], named := ["internal/strconv.uint64pow10", "math/bits.deBruijn32tab", "math/bits.deBruijn64tab", "strconv.ErrSyntax", "strconv.ErrRange"], apart := false, laid := [("math/bits.deBruijn32tab", laid_math_bits_deBruijn32tab), ("math/bits.deBruijn64tab", laid_math_bits_deBruijn64tab), ("internal/strconv.uint64pow10", laid_internal_strconv_uint64pow10), ("strconv.ErrRange", laid_strconv_ErrRange), ("strconv.ErrSyntax", laid_strconv_ErrSyntax)], narrowed := true }
def PathParsesUptoSaid : Prop := pathParsesUptoRow.holds Tryd.pinned (OpenSpec.upto pathParsesSpec)

end Rows
end Go.Proofs.YtlhpflicchchlaaDoor
