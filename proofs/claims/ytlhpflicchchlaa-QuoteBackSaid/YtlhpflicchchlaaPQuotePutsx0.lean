-- PRINTED BY print.sh 35421559b90ae4d0a3588c463048766b98c2df88dd9212a6774a882060cdf62d: not written by this session
import Derived.Test.YtlhpflicchchlaaProg
import Derived.Below
import Derived.Deep.Draws
import Derived.Deep.AppendLies
import Derived.Maps.AppendAt
import Derived.OwnWalk
import Derived.Laws.BytesArg
import Derived.Laws.MakeOwn
import Derived.Laws.OwnMore
import Derived.Deep.OwnRows
import Derived.Tactics
import Derived.Lib.ConvBytes
import Derived.Laws.Slices
import Derived.WalkKit
import Derived.KernelRfl
import Derived.RowKit3
import Derived.Deep.LoopGhost
import Derived.Deep.QuietTactic
import Derived.BigQuiet
import Derived.WideLaws
import Derived.Deep.DeepCutAuto
import Derived.Deep.CutBlock
import Derived.Deep.RegionHeld3
import Derived.Laws.Rows
import Derived.Lib.AppendStr
import Derived.ArgAppend
import Derived.Laws.IdiomCopy
import Derived.OrdersHeld
import Derived.Laws.BitsLemmas
import Derived.RowKit
import Derived.Test.YtlhpflicchchlaaWWords
import Derived.Test.YtlhpflicchchlaaWLast
import Derived.Test.YtlhpflicchchlaaWTab
import Derived.Test.YtlhpflicchchlaaWFour
import Derived.Test.YtlhpflicchchlaaWQPut
import Derived.Test.YtlhpflicchchlaaWApart
import Derived.Test.YtlhpflicchchlaaWArr
import Derived.Test.YtlhpflicchchlaaWZeros
import Derived.Test.YtlhpflicchchlaaWFoot
import Derived.Test.YtlhpflicchchlaaWKept
import Derived.Test.YtlhpflicchchlaaWShare
import Derived.Test.YtlhpflicchchlaaWN
import Derived.Test.YtlhpflicchchlaaWFootNe
import Derived.Test.YtlhpflicchchlaaWAt
import Derived.Test.YtlhpflicchchlaaWEqStruct
import Derived.Test.YtlhpflicchchlaaWRepsOne
import Derived.Test.YtlhpflicchchlaaWInv
import Derived.Test.YtlhpflicchchlaaWInvWords
import Derived.Test.YtlhpflicchchlaaWGuard
import Derived.Test.YtlhpflicchchlaaWNEv
import Derived.Test.YtlhpflicchchlaaWMore
namespace Go.Proofs.Ytlhpflicchchlaa.PQuotePuts
open Go.RowKit Go.Proofs.YtlhpflicchchlaaW.PrintWords Go.Proofs.YtlhpflicchchlaaW.PrintLast Go.Proofs.YtlhpflicchchlaaW.PrintMore
attribute [local go_sem] max2_int min2_int max_two min_two max_three min_three max_four min_four   -- for this text's walks alone
set_option linter.unusedVariables false
set_option linter.unusedSimpArgs false



def errW : Option Int → Value
  | none => .nilIface
  | some c => .iface 0 (.int .i64 c)
theorem errW_none : errW none = .nilIface := rfl
theorem errW_some (c : Int) : errW (some c) = .iface 0 (.int .i64 c) := rfl

theorem info3 : (Try.prog.info? 3).map (fun i => (i.zero, i.size, i.bytes)) = some (some (.int .i64 0), 1, 8) := by kernel_rfl
theorem info5 : (Try.prog.info? 5).map (fun i => (i.zero, i.size, i.bytes)) = some (some (.int .u8 0), 1, 1) := by kernel_rfl
-- the values' own types

end Go.Proofs.Ytlhpflicchchlaa.PQuotePuts
