/- PiecesLong: the walk, by hand, tells it; no condition. -/
import Derived.Test.YtfplmoeahbjfmaaP12
namespace Go.Proofs.Ytfplmoeahbjfmaa.Pure
open Go Go.RowKit Go.Proofs.Ytfplmoeahbjfmaa.P Go.Proofs.YtfplmoeahbjfmaaW.PrintWords Go.Proofs.YtfplmoeahbjfmaaW.PrintLast Go.Proofs.YtfplmoeahbjfmaaW.PrintMore
set_option linter.unusedVariables false

theorem PiecesLong : shuttlelaw34_PiecesLong.Pure := by
  intro a0 w0
  unfold shuttlelaw34_PiecesLong.f
  rw [if_pos ⟨w0, trivial⟩]
end Go.Proofs.Ytfplmoeahbjfmaa.Pure
