/- ChannelAges: the walk, by hand, tells it; no condition. -/
import Derived.Test.YtfplmoeahbjfmaaP31
namespace Go.Proofs.Ytfplmoeahbjfmaa.Pure
open Go Go.RowKit Go.Proofs.Ytfplmoeahbjfmaa.P Go.Proofs.YtfplmoeahbjfmaaW.PrintWords Go.Proofs.YtfplmoeahbjfmaaW.PrintLast Go.Proofs.YtfplmoeahbjfmaaW.PrintMore
set_option linter.unusedVariables false

theorem ChannelAges : shuttlelaw26_ChannelAges.Pure := by
  intro a0 l1 w0 _ _ w1
  unfold shuttlelaw26_ChannelAges.f
  rw [if_pos ⟨w0, List.all_eq_true.2 (fun x hx => w1 x hx), trivial⟩]
end Go.Proofs.Ytfplmoeahbjfmaa.Pure
