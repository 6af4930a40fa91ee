/- Crc16Sums: of all bytes (cut to 100) the CRC-16, the sealed text and whether it is right are what the chapter says; no condition. -/
import Derived.Test.YtkhpgjojbdgkfaaXCrc16Ref
import Derived.Test.YtkhpgjojbdgkfaaX24
namespace Go.Proofs.Ytkhpgjojbdgkfaa.Pure
open Go.RowKit Go.Proofs.Ytkhpgjojbdgkfaa.X Go.Proofs.YtkhpgjojbdgkfaaW.PrintWords Go.Proofs.YtkhpgjojbdgkfaaW.PrintLast Go.Proofs.YtkhpgjojbdgkfaaW.PrintMore

theorem mn_nat (a b : Nat) : mn (a : Int) (b : Int) = ((min a b : Nat) : Int) := by unfold mn; split <;> omega
theorem Crc16Sums : shuttlelaw05_Crc16Sums.Pure := by
  intro l0 _ _ w0
  refine ⟨2000, ?_⟩
  unfold shuttlelaw05_Crc16Sums.f
  have e0 : mn (l0.length : Int) 100 = ((min l0.length 100 : Nat) : Int) := mn_nat _ 100
  have n0 : ((min l0.length 100 : Nat) : Int).toNat = min l0.length 100 := by omega
  rw [e0, n0]
  have hl : (l0.take (min l0.length 100)).length ≤ 100 := by rw [List.length_take]; omega
  have hw : ∀ x ∈ l0.take (min l0.length 100), 0 ≤ x ∧ x ≤ 255 := fun x hx => u8_of_wf w0 x (List.mem_of_mem_take hx)
  generalize l0.take (min l0.length 100) = l at hl hw ⊢
  simp only [Option.bind_some, List.nil_append, List.length_nil, Nat.zero_add]
  rw [if_pos (by omega), if_pos (by omega), if_pos (by omega), sums_f 2000 (by omega)]
  simp only [Option.bind_some, if_true]
  rw [sum_f l (by omega) hw 2000 (by omega), rsum_f l (by omega) hw 2000 (by omega)]
  simp only [Option.bind_some, if_true]
  rw [seal_f l (by omega) hw 2000 (by omega), rseal_f l (by omega) hw 2000 (by omega)]
  simp only [Option.bind_some, if_true]
  rw [rightc_f l (by omega) hw 2000 (by omega), rrightc_f l (by omega) hw 2000 (by omega)]
  simp

end Go.Proofs.Ytkhpgjojbdgkfaa.Pure
