/-
  NARROWER THAN 'FOR EVERY INPUT', by the rows' own cells (each row's printed sentence says how): LiteralWalks: laid · LiteralKinds: laid.
  DERIVED. THE GIVEN ROWS OF THIS SEAT. 2 by the template 'for every input the law returns true; each argument reads behind the call as it read before'; 0 by the template 'total and deterministic' (their statements: YtjfoppmpiklfiaaDoorTotals.lean).
  GIVEN WITH THE SEED: the statements are not yours to turn. If you find one false, say at which input.
  Laid BY PROGRAM, IN A SANDBOX (cutbox-rows.mjs): the forced cells as the released guide's own fill.sh prints them over the translation 50a239ef672e91b0… (all of the seat's roots in one cut). By AI agents, Wed Nov 11 2026. No macro, syntax, notation, axiom, sorry.
-/
import Derived.Test.YtjfoppmpiklfiaaDoorChecked
import GoSem.Claim
import GoSem.ClaimJoined
import GoSem.ClaimMapViews
import Derived.JoinedTies
import Derived.KernelRfl
namespace Go.Proofs.YtjfoppmpiklfiaaDoor
/- THE CELL 'sum', in the pinned program and in every row, IS THE sha256 OF THE DUMP (.gsa) THAT YtjfoppmpiklfiaaDoorProg.lean LOADS. Nothing in Lean hashes anything: it is a label: what it is worth is what the hold of that sum in a sandbox is worth. -/
noncomputable def Tryd.pinned : Pinned := { name := "ytjfoppmpiklfiaadoor", sum := "50a239ef672e91b0ba265844fb15321219c25c5cc570fe891aa51c193d01d27e", checked := Tryd.checked }
namespace Rows
def none {H : Type} : Left H := { results := [], args := [] }

/- WHAT THE LISTED PACKAGE-LEVEL VARIABLES READ AS WHEN THE CALL BEGINS. Each datum BY PROGRAM (the guide's laid-datum.mjs) off the statement by which the dump's own 'gosem.cut.vars' lays the variable. In a bare row this is a premise. The card (YtjfoppmpiklfiaaDoorCards.lean) ties it to the program's text. -/
def laid_riffle_literal_words {H : Type} : DataW H := .agg [.lit (.string [116, 114, 117, 101]), .lit (.string [102, 97, 108, 115, 101]), .lit (.string [110, 117, 108, 108])]

/-- 'rifflelaw05.LiteralWalks': WHATEVER THE INPUT: true; the input reads as it did. -/
def literalWalksSpec : ChangeSpec := { name := "literalWalks", fn := fun _ => fun
  | [d] => { results := [.lit (.bool true)], args := [d] }
  | _ => none }
def literalWalksRow : OpenClaim := { program := "ytjfoppmpiklfiaadoor", sum := "50a239ef672e91b0ba265844fb15321219c25c5cc570fe891aa51c193d01d27e", func := "riffle/rifflelaw05.LiteralWalks", spec := "literalWalks", named := ["riffle/literal.words"], apart := false, laid := [("riffle/literal.words", laid_riffle_literal_words)] }
def LiteralWalksSaid : Prop := literalWalksRow.holds Tryd.pinned (OpenSpec.ofChange literalWalksSpec)

/-- ITS FALSE NEIGHBOUR: 'it returns false'. Refute it at one input. -/
def literalWalksWrong : ChangeSpec := { name := "literalWalks", fn := fun _ => fun
  | [d] => { results := [.lit (.bool false)], args := [d] }
  | _ => none }
def LiteralWalksWrongFalsely : Prop := literalWalksRow.holds Tryd.pinned (OpenSpec.ofChange literalWalksWrong)

/-- 'rifflelaw05.LiteralKinds': WHATEVER THE INPUT: true; the input reads as it did. -/
def literalKindsSpec : ChangeSpec := { name := "literalKinds", fn := fun _ => fun
  | [d] => { results := [.lit (.bool true)], args := [d] }
  | _ => none }
def literalKindsRow : OpenClaim := { program := "ytjfoppmpiklfiaadoor", sum := "50a239ef672e91b0ba265844fb15321219c25c5cc570fe891aa51c193d01d27e", func := "riffle/rifflelaw05.LiteralKinds", spec := "literalKinds", named := ["riffle/literal.words"], apart := false, laid := [("riffle/literal.words", laid_riffle_literal_words)] }
def LiteralKindsSaid : Prop := literalKindsRow.holds Tryd.pinned (OpenSpec.ofChange literalKindsSpec)

/-- ITS FALSE NEIGHBOUR: 'it returns false'. Refute it at one input. -/
def literalKindsWrong : ChangeSpec := { name := "literalKinds", fn := fun _ => fun
  | [d] => { results := [.lit (.bool false)], args := [d] }
  | _ => none }
def LiteralKindsWrongFalsely : Prop := literalKindsRow.holds Tryd.pinned (OpenSpec.ofChange literalKindsWrong)

/- THE SECOND FORM. 'bulk': how many values and letters a reading holds, each counted each time it is reached (what is shared counts as often as it is met; a slice's spare places count too). A statement '..UptoSaid' is the law's where the arguments, and the package variables that the reading takes, are together of bulk at most 1048576: NARROWER than '..Said'. Prove '..Said' where nothing that the law and all that it calls make is longer than what came in: it says more and counts as full. Else prove '..UptoSaid'. A law counts once. -/
mutual
def uptoBulk {H : Type} : DataW H → Nat
  | .lit (.string bytes) => bytes.length + 1
  | .lit _ => 1
  | .nil => 1
  | .ptr d => uptoBulk d + 1
  | .slice elems spare => uptoBulkAll elems + uptoBulkAll spare + 1
  | .agg parts => uptoBulkAll parts + 1
  | .iface _ d => uptoBulk d + 1
  | .map entries => uptoBulkEntries entries + 1
  | .held _ => 1
def uptoBulkAll {H : Type} : List (DataW H) → Nat
  | [] => 0
  | d :: r => uptoBulk d + uptoBulkAll r
def uptoBulkEntries {H : Type} : List (Lit × DataW H) → Nat
  | [] => 0
  | x :: r => uptoBulkEntry x + uptoBulkEntries r
def uptoBulkEntry {H : Type} : Lit × DataW H → Nat
  | (.string bytes, d) => bytes.length + uptoBulk d + 1
  | (_, d) => uptoBulk d + 1
 end
def uptoSmall : (H : Type) → List (DataW H) → Bool := fun _ ds => decide (uptoBulkAll ds ≤ 1048576)
def OpenSpec.upto (s : _root_.Go.ChangeSpec) : _root_.Go.OpenSpec := { _root_.Go.OpenSpec.ofChange s with cond := some uptoSmall }

/-- 'rifflelaw05.LiteralWalks', WHERE WHAT IT READS IS OF BULK AT MOST 1048576: true; the input reads as it did. -/
def literalWalksUptoRow : OpenClaim := { program := "ytjfoppmpiklfiaadoor", sum := "50a239ef672e91b0ba265844fb15321219c25c5cc570fe891aa51c193d01d27e", func := "riffle/rifflelaw05.LiteralWalks", spec := "literalWalks", named := ["riffle/literal.words"], apart := false, laid := [("riffle/literal.words", laid_riffle_literal_words)], narrowed := true }
def LiteralWalksUptoSaid : Prop := literalWalksUptoRow.holds Tryd.pinned (OpenSpec.upto literalWalksSpec)

/-- 'rifflelaw05.LiteralKinds', WHERE WHAT IT READS IS OF BULK AT MOST 1048576: true; the input reads as it did. -/
def literalKindsUptoRow : OpenClaim := { program := "ytjfoppmpiklfiaadoor", sum := "50a239ef672e91b0ba265844fb15321219c25c5cc570fe891aa51c193d01d27e", func := "riffle/rifflelaw05.LiteralKinds", spec := "literalKinds", named := ["riffle/literal.words"], apart := false, laid := [("riffle/literal.words", laid_riffle_literal_words)], narrowed := true }
def LiteralKindsUptoSaid : Prop := literalKindsUptoRow.holds Tryd.pinned (OpenSpec.upto literalKindsSpec)

end Rows
end Go.Proofs.YtjfoppmpiklfiaaDoor
