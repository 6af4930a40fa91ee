/- PiecesSplits: the walk, by hand, tells it; no condition. -/
import Derived.Test.YtfplmoeahbjfmaaP19
namespace Go.Proofs.Ytfplmoeahbjfmaa.Pure
open Go Go.RowKit Go.Proofs.Ytfplmoeahbjfmaa.P Go.Proofs.YtfplmoeahbjfmaaW.PrintWords Go.Proofs.YtfplmoeahbjfmaaW.PrintLast Go.Proofs.YtfplmoeahbjfmaaW.PrintMore
set_option linter.unusedVariables false

theorem PiecesSplits : shuttlelaw34_PiecesSplits.Pure := by
  intro l0 a1 _ _ w0 w1
  unfold shuttlelaw34_PiecesSplits.f
  rw [if_pos ⟨List.all_eq_true.2 (fun x hx => w0 x hx), w1, trivial⟩]
end Go.Proofs.Ytfplmoeahbjfmaa.Pure
