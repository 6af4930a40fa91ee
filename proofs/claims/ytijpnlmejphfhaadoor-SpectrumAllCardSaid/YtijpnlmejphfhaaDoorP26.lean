-- Made by xprint.py (an own driver round the kit's print.py), with contracts of this session's own. Lean checks it.
import Derived.Test.YtijpnlmejphfhaaDoorP0
import Derived.Test.YtijpnlmejphfhaaDoorPSAll
namespace Go.Proofs.YtijpnlmejphfhaaDoor.P
open Go.RowKit Go.Proofs.YtijpnlmejphfhaaDoorW.PrintWords Go.Proofs.YtijpnlmejphfhaaDoorW.PrintLast Go.Proofs.YtijpnlmejphfhaaDoorW.PrintMore
attribute [local go_sem] max2_int min2_int max_two min_two max_three min_three max_four min_four   -- for this text's walks alone
set_option linter.unusedVariables false
set_option linter.unusedSimpArgs false

/-! ### shuttlelaw32_SpectrumAll: function 6 -/
def shuttlelaw32_SpectrumAll.f (a0 : Int) (a1 : Int) : Option (Bool) := if (Lit.int .i64 a0).wf = true ∧ (Lit.int .i64 a1).wf = true ∧ True then some true else none
theorem shuttlelaw32_SpectrumAll.calls (a0 : Int) (a1 : Int) (r : Bool) (w : World)  (h : shuttlelaw32_SpectrumAll.f a0 a1 = some r) (hT_ : TP w := by first | assumption | exact TP_of (by assumption : TP _) (by repeat (first | (with_reducible first | apply below_alloc | apply pw_below_drewN | apply below_drew1 | refine below_set ?_ (Aside0.out (by assumption))) | exact Aside0.out (by assumption) | exact Below.refl _ _))) :
    Calls Tryd.prog 6 #[.int .i64 a0, .int .i64 a1] w fun e w' => e = .returned (.bool r) ∧ Below w.heap.size w w' := by
  unfold shuttlelaw32_SpectrumAll.f at h
  split at h
  · rename_i hw_
    cases h
    obtain ⟨w0, w1, _⟩ := hw_
    exact lawAll_calls a0 a1 w hT_
  · cases h
def shuttlelaw32_SpectrumAll.Pure : Prop := ∀ (a0 : Int) (a1 : Int), (Lit.int .i64 a0).wf = true → (Lit.int .i64 a1).wf = true → shuttlelaw32_SpectrumAll.f a0 a1 = some true
theorem shuttlelaw32_SpectrumAll.walk (P : shuttlelaw32_SpectrumAll.Pure) (a0 : Int) (a1 : Int) (w : World) (w0 : (Lit.int .i64 a0).wf = true) (w1 : (Lit.int .i64 a1).wf = true) (hT_ : TP w := by first | assumption | exact TP_of (by assumption : TP _) (by repeat (first | (with_reducible first | apply below_alloc | apply pw_below_drewN | apply below_drew1 | refine below_set ?_ (Aside0.out (by assumption))) | exact Aside0.out (by assumption) | exact Below.refl _ _))) :
    Calls Tryd.prog 6 #[.int .i64 a0, .int .i64 a1] w fun e w' => e = .returned (.bool true) ∧ Below w.heap.size w w' := by
  have h := P a0 a1 w0 w1
  exact shuttlelaw32_SpectrumAll.calls a0 a1 true w h

end Go.Proofs.YtijpnlmejphfhaaDoor.P
