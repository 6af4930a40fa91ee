-- Made by xprint.py (an own driver round the kit's print.py), with contracts of this session's own. Lean checks it.
import Derived.Test.YtmajbcglpcagoaaProg
import Derived.Below
import Derived.Deep.Draws
import Derived.Deep.AppendLies
import Derived.Maps.AppendAt
import Derived.OwnWalk
import Derived.Laws.BytesArg
import Derived.Laws.MakeOwn
import Derived.Laws.OwnMore
import Derived.Deep.OwnRows
import Derived.Tactics
import Derived.Lib.ConvBytes
import Derived.Laws.Slices
import Derived.WalkKit
import Derived.KernelRfl
import Derived.RowKit3
import Derived.Deep.LoopGhost
import Derived.Deep.QuietTactic
import Derived.BigQuiet
import Derived.WideLaws
import Derived.Deep.DeepCutAuto
import Derived.Deep.CutBlock
import Derived.Deep.RegionHeld3
import Derived.Laws.Rows
import Derived.Lib.AppendStr
import Derived.ArgAppend
import Derived.Laws.IdiomCopy
import Derived.OrdersHeld
import Derived.Laws.BitsLemmas
import Derived.RowKit
import Derived.Test.YtmajbcglpcagoaaXExtra
import Derived.Test.YtmajbcglpcagoaaWWords
import Derived.Test.YtmajbcglpcagoaaWLast
import Derived.Test.YtmajbcglpcagoaaWTab
import Derived.Test.YtmajbcglpcagoaaWFour
import Derived.Test.YtmajbcglpcagoaaWQPut
import Derived.Test.YtmajbcglpcagoaaWApart
import Derived.Test.YtmajbcglpcagoaaWArr
import Derived.Test.YtmajbcglpcagoaaWZeros
import Derived.Test.YtmajbcglpcagoaaWFoot
import Derived.Test.YtmajbcglpcagoaaWKept
import Derived.Test.YtmajbcglpcagoaaWShare
import Derived.Test.YtmajbcglpcagoaaWN
import Derived.Test.YtmajbcglpcagoaaWFootNe
import Derived.Test.YtmajbcglpcagoaaWAt
import Derived.Test.YtmajbcglpcagoaaWEqStruct
import Derived.Test.YtmajbcglpcagoaaWRepsOne
import Derived.Test.YtmajbcglpcagoaaWInv
import Derived.Test.YtmajbcglpcagoaaWInvWords
import Derived.Test.YtmajbcglpcagoaaWGuard
import Derived.Test.YtmajbcglpcagoaaWNEv
import Derived.Test.YtmajbcglpcagoaaWMore
namespace Go.Proofs.Ytmajbcglpcagoaa.X
open Go.RowKit Go.Proofs.YtmajbcglpcagoaaW.PrintWords Go.Proofs.YtmajbcglpcagoaaW.PrintLast Go.Proofs.YtmajbcglpcagoaaW.PrintMore
attribute [local go_sem] max2_int min2_int max_two min_two max_three min_three max_four min_four   -- for this text's walks alone
set_option linter.unusedVariables false
set_option linter.unusedSimpArgs false



def errW : Option Int → Value
  | none => .nilIface
  | some c => .iface 0 (.int .i64 c)
theorem errW_none : errW none = .nilIface := rfl
theorem errW_some (c : Int) : errW (some c) = .iface 0 (.int .i64 c) := rfl

theorem info5 : (Try.prog.info? 5).map (fun i => (i.zero, i.size, i.bytes)) = some (some (.int .u8 0), 1, 1) := by kernel_rfl
-- the values' own types

end Go.Proofs.Ytmajbcglpcagoaa.X
