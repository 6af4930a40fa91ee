-- Made by xprint.py (an own driver round the kit's print.py), with contracts of this session's own. Lean checks it.
import Derived.Test.YtkhpgjojbdgkfaaProg
import Derived.Below
import Derived.Deep.Draws
import Derived.Deep.AppendLies
import Derived.Maps.AppendAt
import Derived.OwnWalk
import Derived.Laws.BytesArg
import Derived.Laws.MakeOwn
import Derived.Laws.OwnMore
import Derived.Deep.OwnRows
import Derived.Tactics
import Derived.Lib.ConvBytes
import Derived.Laws.Slices
import Derived.WalkKit
import Derived.KernelRfl
import Derived.RowKit3
import Derived.Deep.LoopGhost
import Derived.Deep.QuietTactic
import Derived.BigQuiet
import Derived.WideLaws
import Derived.Deep.DeepCutAuto
import Derived.Deep.CutBlock
import Derived.Deep.RegionHeld3
import Derived.Laws.Rows
import Derived.Lib.AppendStr
import Derived.ArgAppend
import Derived.Laws.IdiomCopy
import Derived.OrdersHeld
import Derived.Laws.BitsLemmas
import Derived.RowKit
import Derived.Test.YtkhpgjojbdgkfaaZExtra
import Derived.Test.YtkhpgjojbdgkfaaWWords
import Derived.Test.YtkhpgjojbdgkfaaWLast
import Derived.Test.YtkhpgjojbdgkfaaWTab
import Derived.Test.YtkhpgjojbdgkfaaWFour
import Derived.Test.YtkhpgjojbdgkfaaWQPut
import Derived.Test.YtkhpgjojbdgkfaaWApart
import Derived.Test.YtkhpgjojbdgkfaaWArr
import Derived.Test.YtkhpgjojbdgkfaaWZeros
import Derived.Test.YtkhpgjojbdgkfaaWFoot
import Derived.Test.YtkhpgjojbdgkfaaWKept
import Derived.Test.YtkhpgjojbdgkfaaWShare
import Derived.Test.YtkhpgjojbdgkfaaWN
import Derived.Test.YtkhpgjojbdgkfaaWFootNe
import Derived.Test.YtkhpgjojbdgkfaaWAt
import Derived.Test.YtkhpgjojbdgkfaaWEqStruct
import Derived.Test.YtkhpgjojbdgkfaaWRepsOne
import Derived.Test.YtkhpgjojbdgkfaaWInv
import Derived.Test.YtkhpgjojbdgkfaaWInvWords
import Derived.Test.YtkhpgjojbdgkfaaWGuard
import Derived.Test.YtkhpgjojbdgkfaaWNEv
import Derived.Test.YtkhpgjojbdgkfaaWMore
namespace Go.Proofs.Ytkhpgjojbdgkfaa.Z
open Go.RowKit Go.Proofs.YtkhpgjojbdgkfaaW.PrintWords Go.Proofs.YtkhpgjojbdgkfaaW.PrintLast Go.Proofs.YtkhpgjojbdgkfaaW.PrintMore
attribute [local go_sem] max2_int min2_int max_two min_two max_three min_three max_four min_four   -- for this text's walks alone
set_option linter.unusedVariables false
set_option linter.unusedSimpArgs false



def errW : Option Int → Value
  | none => .nilIface
  | some c => .iface 0 (.int .i64 c)
theorem errW_none : errW none = .nilIface := rfl
theorem errW_some (c : Int) : errW (some c) = .iface 0 (.int .i64 c) := rfl

theorem info3 : (Try.prog.info? 3).map (fun i => (i.zero, i.size, i.bytes)) = some (some (.int .i64 0), 1, 8) := by kernel_rfl
-- the values' own types

end Go.Proofs.Ytkhpgjojbdgkfaa.Z
