/- BitsBytes: of all bytes the bits are told, and they come back. -/
import Derived.Test.YtmjilfeadgancaaXBitsOf
import Derived.Test.YtmjilfeadgancaaX31
namespace Go.Proofs.Ytmjilfeadgancaa.Pure
open Go.RowKit Go.Proofs.Ytmjilfeadgancaa.X Go.Proofs.YtmjilfeadgancaaW.PrintWords Go.Proofs.YtmjilfeadgancaaW.PrintLast Go.Proofs.YtmjilfeadgancaaW.PrintMore
set_option linter.unusedVariables false

theorem mn_nat200 (a : Nat) : mn (a : Int) 200 = ((min a 200 : Nat) : Int) := by unfold mn; split <;> omega
theorem BitsBytes : shuttlelaw01_BitsBytes.Pure := by
  intro l0 m0 _ w0
  refine ⟨3000, ?_⟩
  unfold shuttlelaw01_BitsBytes.f
  rw [mn_nat200, Option.bind_some, if_pos (by omega), if_pos (by omega), Int.toNat_natCast, List.length_nil, Nat.zero_add, List.nil_append]
  have hl : (l0.take (min l0.length 200)).length ≤ 200 := by rw [List.length_take]; omega
  have hw : ∀ x ∈ l0.take (min l0.length 200), 0 ≤ x ∧ x ≤ 255 := fun x hx => u8_of_wf w0 x (List.mem_of_mem_take hx)
  generalize l0.take (min l0.length 200) = l at hl hw ⊢
  rw [if_pos (by omega), Option.bind_some, bof_f l hw (by omega) 3000 (by omega), Option.bind_some, bytes_ofl l hw (by omega) 3000 (by omega), Option.bind_some, tells_ok 3000 (by omega), Option.bind_some, if_pos rfl,
    rof_f l hw (by omega) 3000 (by omega), Option.bind_some, if_pos rfl, if_pos rfl, if_pos rfl, beq_self_eq_true]
end Go.Proofs.Ytmjilfeadgancaa.Pure
