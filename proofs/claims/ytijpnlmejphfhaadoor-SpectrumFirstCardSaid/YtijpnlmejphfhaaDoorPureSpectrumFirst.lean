/- SpectrumFirst: the walk, by hand, tells it; no condition. -/
import Derived.Test.YtijpnlmejphfhaaDoorP25
namespace Go.Proofs.YtijpnlmejphfhaaDoor.Pure
open Go Go.RowKit Go.Proofs.YtijpnlmejphfhaaDoor.P Go.Proofs.YtijpnlmejphfhaaDoorW.PrintWords Go.Proofs.YtijpnlmejphfhaaDoorW.PrintLast Go.Proofs.YtijpnlmejphfhaaDoorW.PrintMore
set_option linter.unusedVariables false

theorem SpectrumFirst : shuttlelaw32_SpectrumFirst.Pure := by
  intro l0 _ _ w0
  unfold shuttlelaw32_SpectrumFirst.f
  rw [if_pos ⟨List.all_eq_true.2 (fun x hx => w0 x hx), trivial⟩]
end Go.Proofs.YtijpnlmejphfhaaDoor.Pure
