/- BitioSame: a number in its bits is what its halves are, one behind the other; no condition. (The walk, by hand, tells it.) -/
import Derived.Test.YtmajbcglpcagoaaB12
namespace Go.Proofs.Ytmajbcglpcagoaa.Pure
open Go Go.RowKit Go.Proofs.Ytmajbcglpcagoaa.B Go.Proofs.YtmajbcglpcagoaaW.PrintWords Go.Proofs.YtmajbcglpcagoaaW.PrintLast Go.Proofs.YtmajbcglpcagoaaW.PrintMore
set_option linter.unusedVariables false

theorem BitioSame : shuttlelaw02_BitioSame.Pure := by
  intro a0 a1 a2 w0 w1 w2
  unfold shuttlelaw02_BitioSame.f
  rw [if_pos ⟨w0, w1, w2⟩]
end Go.Proofs.Ytmajbcglpcagoaa.Pure
