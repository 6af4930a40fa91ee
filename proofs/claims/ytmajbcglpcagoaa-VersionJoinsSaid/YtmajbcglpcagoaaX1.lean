-- Made by xprint.py (an own driver round the kit's print.py), with contracts of this session's own. Lean checks it.
import Derived.Test.YtmajbcglpcagoaaX0
namespace Go.Proofs.Ytmajbcglpcagoaa.X
open Go.RowKit Go.Proofs.YtmajbcglpcagoaaW.PrintWords Go.Proofs.YtmajbcglpcagoaaW.PrintLast Go.Proofs.YtmajbcglpcagoaaW.PrintMore
attribute [local go_sem] max2_int min2_int max_two min_two max_three min_three max_four min_four   -- for this text's walks alone
set_option linter.unusedVariables false
set_option linter.unusedSimpArgs false

/-! ### bits_Right_1: function 35 -/
def bits_Right_1.f (a0 : Int) : Option (Bool) := some (decide (a0 > 1))
set_option maxHeartbeats 8000000 in
set_option maxRecDepth 100000 in
theorem bits_Right_1.calls (a0 : Int) (r : Bool) (w : World) (h : bits_Right_1.f a0 = some r) :
    Calls Try.prog 35 #[.int .u8 a0] w fun e w' => e = .returned (.bool r) ∧ Drawn0 w w' := by
  have H : (some (decide (a0 > 1))) = some r := h
  clear h
  obtain rfl := Option.some.inj H
  go_enter Try.func35, Try.ntmps35
  go_wp2
  go_ret
  exact ⟨by first | rfl | (simp; done) | (simp [*]; done), by repeat (first | exact Drawn0.refl _ | apply Drawn0.step)⟩

end Go.Proofs.Ytmajbcglpcagoaa.X
