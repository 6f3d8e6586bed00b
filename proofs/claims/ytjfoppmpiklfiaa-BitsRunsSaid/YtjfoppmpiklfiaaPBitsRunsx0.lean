-- PRINTED BY print.sh 35421559b90ae4d0a3588c463048766b98c2df88dd9212a6774a882060cdf62d: not written by this session
import Derived.Test.YtjfoppmpiklfiaaProg
import Derived.Below
import Derived.Deep.Draws
import Derived.Deep.AppendLies
import Derived.Maps.AppendAt
import Derived.OwnWalk
import Derived.Laws.BytesArg
import Derived.Laws.MakeOwn
import Derived.Laws.OwnMore
import Derived.Deep.OwnRows
import Derived.Tactics
import Derived.Lib.ConvBytes
import Derived.Laws.Slices
import Derived.WalkKit
import Derived.KernelRfl
import Derived.RowKit3
import Derived.Deep.LoopGhost
import Derived.Deep.QuietTactic
import Derived.BigQuiet
import Derived.WideLaws
import Derived.Deep.DeepCutAuto
import Derived.Deep.CutBlock
import Derived.Deep.RegionHeld3
import Derived.Laws.Rows
import Derived.Lib.AppendStr
import Derived.ArgAppend
import Derived.Laws.IdiomCopy
import Derived.OrdersHeld
import Derived.Laws.BitsLemmas
import Derived.RowKit
import Derived.Test.YtjfoppmpiklfiaaWWords
import Derived.Test.YtjfoppmpiklfiaaWLast
import Derived.Test.YtjfoppmpiklfiaaWTab
import Derived.Test.YtjfoppmpiklfiaaWFour
import Derived.Test.YtjfoppmpiklfiaaWQPut
import Derived.Test.YtjfoppmpiklfiaaWApart
import Derived.Test.YtjfoppmpiklfiaaWArr
import Derived.Test.YtjfoppmpiklfiaaWZeros
import Derived.Test.YtjfoppmpiklfiaaWFoot
import Derived.Test.YtjfoppmpiklfiaaWKept
import Derived.Test.YtjfoppmpiklfiaaWShare
import Derived.Test.YtjfoppmpiklfiaaWN
import Derived.Test.YtjfoppmpiklfiaaWFootNe
import Derived.Test.YtjfoppmpiklfiaaWAt
import Derived.Test.YtjfoppmpiklfiaaWEqStruct
import Derived.Test.YtjfoppmpiklfiaaWRepsOne
import Derived.Test.YtjfoppmpiklfiaaWInv
import Derived.Test.YtjfoppmpiklfiaaWInvWords
import Derived.Test.YtjfoppmpiklfiaaWGuard
import Derived.Test.YtjfoppmpiklfiaaWNEv
import Derived.Test.YtjfoppmpiklfiaaWMore
namespace Go.Proofs.Ytjfoppmpiklfiaa.PBitsRuns
open Go.RowKit Go.Proofs.YtjfoppmpiklfiaaW.PrintWords Go.Proofs.YtjfoppmpiklfiaaW.PrintLast Go.Proofs.YtjfoppmpiklfiaaW.PrintMore
attribute [local go_sem] max2_int min2_int max_two min_two max_three min_three max_four min_four   -- for this text's walks alone
set_option linter.unusedVariables false
set_option linter.unusedSimpArgs false



def errW : Option Int → Value
  | none => .nilIface
  | some c => .iface 0 (.int .i64 c)
theorem errW_none : errW none = .nilIface := rfl
theorem errW_some (c : Int) : errW (some c) = .iface 0 (.int .i64 c) := rfl

theorem info4 : (Try.prog.info? 4).map (fun i => (i.zero, i.size, i.bytes)) = some (some (.bool false), 1, 1) := by kernel_rfl
-- the values' own types

end Go.Proofs.Ytjfoppmpiklfiaa.PBitsRuns
