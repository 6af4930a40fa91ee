/- BitioTakes: the walk, by hand, tells it; no condition. -/
import Derived.Test.YtmajbcglpcagoaaB25
namespace Go.Proofs.Ytmajbcglpcagoaa.Pure
open Go Go.RowKit Go.Proofs.Ytmajbcglpcagoaa.B Go.Proofs.YtmajbcglpcagoaaW.PrintWords Go.Proofs.YtmajbcglpcagoaaW.PrintLast Go.Proofs.YtmajbcglpcagoaaW.PrintMore
set_option linter.unusedVariables false

theorem BitioTakes : shuttlelaw02_BitioTakes.Pure := by
  intro l0 l1 a2 _ _ w0 _ _ w1 w2
  unfold shuttlelaw02_BitioTakes.f
  rw [if_pos ⟨List.all_eq_true.2 (fun x hx => w0 x hx), List.all_eq_true.2 (fun x hx => w1 x hx), w2, trivial⟩]
end Go.Proofs.Ytmajbcglpcagoaa.Pure
