-- Made by xprint.py (an own driver round the kit's print.py), with contracts of this session's own. Lean checks it.
import Derived.Test.YtfplmoeahbjfmaaP0
import Derived.Test.YtfplmoeahbjfmaaPCFull
namespace Go.Proofs.Ytfplmoeahbjfmaa.P
open Go.RowKit Go.Proofs.YtfplmoeahbjfmaaW.PrintWords Go.Proofs.YtfplmoeahbjfmaaW.PrintLast Go.Proofs.YtfplmoeahbjfmaaW.PrintMore
attribute [local go_sem] max2_int min2_int max_two min_two max_three min_three max_four min_four   -- for this text's walks alone
set_option linter.unusedVariables false
set_option linter.unusedSimpArgs false

/-! ### shuttlelaw26_ChannelFull: function 4 -/
def shuttlelaw26_ChannelFull.f (a0 : Int) : Option (Bool) := if (Lit.int .i64 a0).wf = true ∧ True then some true else none
theorem shuttlelaw26_ChannelFull.calls (a0 : Int) (r : Bool) (w : World)  (h : shuttlelaw26_ChannelFull.f a0 = some r) :
    Calls Try.prog 4 #[.int .i64 a0] w fun e w' => e = .returned (.bool r) ∧ Below w.heap.size w w' := by
  unfold shuttlelaw26_ChannelFull.f at h
  split at h
  · rename_i hw_
    cases h
    obtain ⟨w0, _⟩ := hw_
    exact full_calls a0 w
  · cases h
def shuttlelaw26_ChannelFull.Pure : Prop := ∀ (a0 : Int), (Lit.int .i64 a0).wf = true → shuttlelaw26_ChannelFull.f a0 = some true
theorem shuttlelaw26_ChannelFull.walk (P : shuttlelaw26_ChannelFull.Pure) (a0 : Int) (w : World) (w0 : (Lit.int .i64 a0).wf = true) :
    Calls Try.prog 4 #[.int .i64 a0] w fun e w' => e = .returned (.bool true) ∧ Below w.heap.size w w' := by
  have h := P a0 w0
  exact shuttlelaw26_ChannelFull.calls a0 true w h

end Go.Proofs.Ytfplmoeahbjfmaa.P
