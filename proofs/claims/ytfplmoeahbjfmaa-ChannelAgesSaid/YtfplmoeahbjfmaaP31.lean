-- Made by xprint.py (an own driver round the kit's print.py), with contracts of this session's own. Lean checks it.
import Derived.Test.YtfplmoeahbjfmaaP0
import Derived.Test.YtfplmoeahbjfmaaPCAgesW
namespace Go.Proofs.Ytfplmoeahbjfmaa.P
open Go.RowKit Go.Proofs.YtfplmoeahbjfmaaW.PrintWords Go.Proofs.YtfplmoeahbjfmaaW.PrintLast Go.Proofs.YtfplmoeahbjfmaaW.PrintMore
attribute [local go_sem] max2_int min2_int max_two min_two max_three min_three max_four min_four   -- for this text's walks alone
set_option linter.unusedVariables false
set_option linter.unusedSimpArgs false

/-! ### shuttlelaw26_ChannelAges: function 3 -/
def shuttlelaw26_ChannelAges.f (a0 : Int) (l1 : List Int) : Option (Bool) := if (Lit.int .i64 a0).wf = true ∧ l1.all (fun x => (Lit.int .i64 x).wf) = true ∧ True then some true else none
theorem shuttlelaw26_ChannelAges.calls (a0 : Int) (A1 : Option Addr) (c1 : Nat) (l1 : List Int) (r : Bool) (w : World) (hr1 : Kd.C (Kd.int .i64) w A1 l1.length l1) (hc1 : l1.length ≤ c1) (h : shuttlelaw26_ChannelAges.f a0 l1 = some r) :
    Calls Try.prog 3 #[.int .i64 a0, .slice A1 l1.length c1] w fun e w' => e = .returned (.bool r) ∧ Below w.heap.size w w' := by
  unfold shuttlelaw26_ChannelAges.f at h
  split at h
  · rename_i hw_
    cases h
    obtain ⟨w0, hw1, _⟩ := hw_
    have hw1 : ∀ x ∈ l1, (Lit.int .i64 x).wf = true := fun x hx => List.all_eq_true.1 hw1 x hx
    exact ages_calls a0 A1 c1 l1 w hr1 hc1
  · cases h
def shuttlelaw26_ChannelAges.Pure : Prop := ∀ (a0 : Int) (l1 : List Int), (Lit.int .i64 a0).wf = true → l1.length ≤ maxLen → l1.length * 8 ≤ 140737488351232 → (∀ x ∈ l1, (Lit.int .i64 x).wf = true) → shuttlelaw26_ChannelAges.f a0 l1 = some true
theorem shuttlelaw26_ChannelAges.walk (P : shuttlelaw26_ChannelAges.Pure) (a0 : Int) (a1 : Option Addr) (len1 cap1 : Nat) (z1 : List Int) (w : World) (w0 : (Lit.int .i64 a0).wf = true) (w1 : (a1 = none ∧ len1 = 0 ∧ cap1 = 0 ∧ z1 = []) ∨ ∃ x, a1 = some x ∧ len1 ≤ cap1 ∧ cap1 ≤ maxLen ∧ z1.length = cap1 ∧ (∀ i, i < z1.length → w.cell? (x.add i) = some (.int .i64 (z1.getD i 0))) ∧ ∀ n ∈ z1, (Lit.int .i64 n).wf = true) (y1 : len1 * 8 ≤ 140737488351232) :
    Calls Try.prog 3 #[.int .i64 a0, .slice a1 len1 cap1] w fun e w' => e = .returned (.bool true) ∧ Below w.heap.size w w' := by
  obtain ⟨l1, rfl, hr1, hm1, hw1, hc1⟩ := ReadsInt.ofRowC w1
  have h := P a0 l1 w0 hm1 y1 hw1
  exact shuttlelaw26_ChannelAges.calls a0 _ _ l1 true w (Kd.C_of_reads (d := (0 : Int)) (h1 := fun _ => rfl) hr1) hc1 h

end Go.Proofs.Ytfplmoeahbjfmaa.P
