/- TrellisBack's pure statement: for every number, six edges back by noughts come to state 0: at each of the 64 states by reckoning. No condition. -/
import Derived.Test.YtmajbcglpcagoaaDoorXPlain
import Derived.Test.YtmajbcglpcagoaaDoorX21
namespace Go.Proofs.YtmajbcglpcagoaaDoor.Pure
open Go.RowKit Go.Proofs.YtmajbcglpcagoaaDoor.X Go.Proofs.YtmajbcglpcagoaaDoorW.PrintWords Go.Proofs.YtmajbcglpcagoaaDoorW.PrintLast

theorem state64 (a0 : Int) : ∃ s : Fin 64, wrap64 (Int.tmod (IntKind.u64.wrap a0) 64) = ((s.val : Nat) : Int) := by
  have p0 : 0 ≤ IntKind.u64.wrap a0 := by rw [IntKind.wrap_u64]; omega
  have b0 : Int.tmod (IntKind.u64.wrap a0) 64 = IntKind.u64.wrap a0 % 64 := Int.tmod_eq_emod_of_nonneg p0
  rw [b0]
  generalize IntKind.u64.wrap a0 = u at *
  refine ⟨⟨(u % 64).toNat, by omega⟩, ?_⟩
  rw [wrap_in (by omega) (by omega)]
  show _ = (((u % 64).toNat : Nat) : Int)
  omega
theorem back_all : ∀ s : Fin 64, shuttlelaw07_TrellisBack.l0 10 ((s.val : Nat) : Int) 0 = some true := by decide +kernel
theorem TrellisBack : shuttlelaw07_TrellisBack.Pure := by
  intro a0 _
  refine ⟨10, ?_⟩
  obtain ⟨s, hs⟩ := state64 a0
  unfold shuttlelaw07_TrellisBack.f
  rw [hs]
  exact back_all s

end Go.Proofs.YtmajbcglpcagoaaDoor.Pure
