/- Contracts of functions that the law UtfBads reaches. Conditions: none. -/
import Derived.Test.YtjfoppmpiklfiabProg
import Derived.Below
import Derived.Deep.Draws
import Derived.Deep.AppendLies
import Derived.Maps.AppendAt
import Derived.OwnWalk
import Derived.Laws.BytesArg
import Derived.Laws.MakeOwn
import Derived.Laws.OwnMore
import Derived.Deep.OwnRows
import Derived.Tactics
import Derived.Lib.ConvBytes
import Derived.Laws.Slices
import Derived.WalkKit
import Derived.KernelRfl
import Derived.RowKit3
import Derived.Deep.LoopGhost
import Derived.Deep.QuietTactic
import Derived.BigQuiet
import Derived.WideLaws
import Derived.Deep.DeepCutAuto
import Derived.Deep.CutBlock
import Derived.Deep.RegionHeld3
import Derived.Laws.Rows
import Derived.Lib.AppendStr
import Derived.ArgAppend
import Derived.Laws.IdiomCopy
import Derived.OrdersHeld
import Derived.Laws.BitsLemmas
import Derived.RowKit
import Derived.Test.YtjfoppmpiklfiabWWords
import Derived.Test.YtjfoppmpiklfiabWLast
import Derived.Test.YtjfoppmpiklfiabWTab
import Derived.Test.YtjfoppmpiklfiabWFour
import Derived.Test.YtjfoppmpiklfiabWQPut
import Derived.Test.YtjfoppmpiklfiabWApart
import Derived.Test.YtjfoppmpiklfiabWArr
import Derived.Test.YtjfoppmpiklfiabWZeros
import Derived.Test.YtjfoppmpiklfiabWFoot
import Derived.Test.YtjfoppmpiklfiabWKept
import Derived.Test.YtjfoppmpiklfiabWShare
import Derived.Test.YtjfoppmpiklfiabWN
import Derived.Test.YtjfoppmpiklfiabWFootNe
import Derived.Test.YtjfoppmpiklfiabWAt
import Derived.Test.YtjfoppmpiklfiabWEqStruct
import Derived.Test.YtjfoppmpiklfiabWRepsOne
import Derived.Test.YtjfoppmpiklfiabWInv
import Derived.Test.YtjfoppmpiklfiabWInvWords
import Derived.Test.YtjfoppmpiklfiabWGuard
import Derived.Test.YtjfoppmpiklfiabWNEv
import Derived.Test.YtjfoppmpiklfiabWMore
namespace Go.Proofs.Ytjfoppmpiklfiab.PUtfBads
open Go.RowKit Go.Proofs.YtjfoppmpiklfiabW.PrintWords Go.Proofs.YtjfoppmpiklfiabW.PrintLast Go.Proofs.YtjfoppmpiklfiabW.PrintMore
attribute [local go_sem] max2_int min2_int max_two min_two max_three min_three max_four min_four   -- for this text's walks alone
set_option linter.unusedVariables false
set_option linter.unusedSimpArgs false



def errW : Option Int → Value
  | none => .nilIface
  | some c => .iface 0 (.int .i64 c)
theorem errW_none : errW none = .nilIface := rfl
theorem errW_some (c : Int) : errW (some c) = .iface 0 (.int .i64 c) := rfl

theorem info3 : (Try.prog.info? 3).map (fun i => (i.zero, i.size, i.bytes)) = some (some (.int .i64 0), 1, 8) := by kernel_rfl
theorem info5 : (Try.prog.info? 5).map (fun i => (i.zero, i.size, i.bytes)) = some (some (.int .u8 0), 1, 1) := by kernel_rfl
-- the values' own types

end Go.Proofs.Ytjfoppmpiklfiab.PUtfBads
