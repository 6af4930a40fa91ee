/- SpectrumAll: the walk, by hand, tells it; no condition. -/
import Derived.Test.YtijpnlmejphfhaaDoorP26
namespace Go.Proofs.YtijpnlmejphfhaaDoor.Pure
open Go Go.RowKit Go.Proofs.YtijpnlmejphfhaaDoor.P Go.Proofs.YtijpnlmejphfhaaDoorW.PrintWords Go.Proofs.YtijpnlmejphfhaaDoorW.PrintLast Go.Proofs.YtijpnlmejphfhaaDoorW.PrintMore
set_option linter.unusedVariables false

theorem SpectrumAll : shuttlelaw32_SpectrumAll.Pure := by
  intro a0 a1 w0 w1
  unfold shuttlelaw32_SpectrumAll.f
  rw [if_pos ⟨w0, w1, trivial⟩]
end Go.Proofs.YtijpnlmejphfhaaDoor.Pure
