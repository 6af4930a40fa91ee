-- Made by xprint.py (an own driver round the kit's print.py), with contracts of this session's own. Lean checks it.
import Derived.Test.YtmajbcglpcagoaaB0
import Derived.Test.YtmajbcglpcagoaaBBitioSame
namespace Go.Proofs.Ytmajbcglpcagoaa.B
open Go.RowKit Go.Proofs.YtmajbcglpcagoaaW.PrintWords Go.Proofs.YtmajbcglpcagoaaW.PrintLast Go.Proofs.YtmajbcglpcagoaaW.PrintMore
attribute [local go_sem] max2_int min2_int max_two min_two max_three min_three max_four min_four   -- for this text's walks alone
set_option linter.unusedVariables false
set_option linter.unusedSimpArgs false

/-! ### shuttlelaw02_BitioSame: function 5 -/
def shuttlelaw02_BitioSame.f (a0 : Int) (a1 : Int) (a2 : Int) : Option (Bool) := if (Lit.int .i64 a0).wf = true ∧ (Lit.int .i64 a1).wf = true ∧ (Lit.int .i64 a2).wf = true then some true else none
theorem shuttlelaw02_BitioSame.calls (a0 : Int) (a1 : Int) (a2 : Int) (r : Bool) (w : World) (h : shuttlelaw02_BitioSame.f a0 a1 a2 = some r) :
    Calls Try.prog 5 #[.int .i64 a0, .int .i64 a1, .int .i64 a2] w fun e w' => e = .returned (.bool r) ∧ Below w.heap.size w w' := by
  unfold shuttlelaw02_BitioSame.f at h
  split at h
  · rename_i hw
    cases h
    exact same_calls a0 a1 a2 hw.1 hw.2.1 hw.2.2 w
  · cases h
def shuttlelaw02_BitioSame.Pure : Prop := ∀ (a0 : Int) (a1 : Int) (a2 : Int), (Lit.int .i64 a0).wf = true → (Lit.int .i64 a1).wf = true → (Lit.int .i64 a2).wf = true → shuttlelaw02_BitioSame.f a0 a1 a2 = some true
theorem shuttlelaw02_BitioSame.walk (P : shuttlelaw02_BitioSame.Pure) (a0 : Int) (a1 : Int) (a2 : Int) (w : World) (w0 : (Lit.int .i64 a0).wf = true) (w1 : (Lit.int .i64 a1).wf = true) (w2 : (Lit.int .i64 a2).wf = true) :
    Calls Try.prog 5 #[.int .i64 a0, .int .i64 a1, .int .i64 a2] w fun e w' => e = .returned (.bool true) ∧ Below w.heap.size w w' :=
  shuttlelaw02_BitioSame.calls a0 a1 a2 true w (P a0 a1 a2 w0 w1 w2)

end Go.Proofs.Ytmajbcglpcagoaa.B
