/- ChannelFull: the walk, by hand, tells it; no condition. -/
import Derived.Test.YtfplmoeahbjfmaaP33
namespace Go.Proofs.Ytfplmoeahbjfmaa.Pure
open Go Go.RowKit Go.Proofs.Ytfplmoeahbjfmaa.P Go.Proofs.YtfplmoeahbjfmaaW.PrintWords Go.Proofs.YtfplmoeahbjfmaaW.PrintLast Go.Proofs.YtfplmoeahbjfmaaW.PrintMore
set_option linter.unusedVariables false

theorem ChannelFull : shuttlelaw26_ChannelFull.Pure := by
  intro a0 w0
  unfold shuttlelaw26_ChannelFull.f
  rw [if_pos ⟨w0, trivial⟩]
end Go.Proofs.Ytfplmoeahbjfmaa.Pure
