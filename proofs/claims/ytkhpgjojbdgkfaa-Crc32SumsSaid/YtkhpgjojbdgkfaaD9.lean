-- Made by xprint.py (an own driver round the kit's print.py), with contracts of this session's own. Lean checks it.
import Derived.Test.YtkhpgjojbdgkfaaD0
import Derived.Test.YtkhpgjojbdgkfaaDRefW
namespace Go.Proofs.Ytkhpgjojbdgkfaa.D
open Go.RowKit Go.Proofs.YtkhpgjojbdgkfaaW.PrintWords Go.Proofs.YtkhpgjojbdgkfaaW.PrintLast Go.Proofs.YtkhpgjojbdgkfaaW.PrintMore
attribute [local go_sem] max2_int min2_int max_two min_two max_three min_three max_four min_four   -- for this text's walks alone
set_option linter.unusedVariables false
set_option linter.unusedSimpArgs false

/-! ### shuttleref04_Sum: function 29 -/
def shuttleref04_Sum.f (l0 : List Int) : Option Int := if l0.all (fun x => decide (0 ≤ x ∧ x ≤ 255)) = true ∧ l0.length ≤ 1000 then some ((sum32 l0).toNat : Int) else none
theorem shuttleref04_Sum.calls (A0 : Option Addr) (c0 : Nat) (l0 : List Int) (r : Int) (w : World) (hr0 : Kd.C (Kd.int .u8) w A0 l0.length l0) (hc0 : l0.length ≤ c0) (h : shuttleref04_Sum.f l0 = some r) :
    Calls Try.prog 29 #[.slice A0 l0.length c0] w fun e w' => e = .returned (.int .u32 r) ∧ Below w.heap.size w w' := by
  unfold shuttleref04_Sum.f at h
  by_cases hg : l0.all (fun x => decide (0 ≤ x ∧ x ≤ 255)) = true ∧ l0.length ≤ 1000
  · rw [if_pos hg] at h
    cases h
    exact shuttleref04_Sum_walk A0 c0 l0 w hr0 hc0 (fun x hx => of_decide_eq_true (List.all_eq_true.1 hg.1 x hx)) hg.2
  · rw [if_neg hg] at h; cases h

end Go.Proofs.Ytkhpgjojbdgkfaa.D
