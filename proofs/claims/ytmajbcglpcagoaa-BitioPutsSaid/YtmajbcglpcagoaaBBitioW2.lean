/- More of the bit writer's methods by hand: its bytes, its length; of no writer. No condition but lengths. -/
import Derived.Test.YtmajbcglpcagoaaBBitioW
import Derived.Test.YtmajbcglpcagoaaB8
namespace Go.Proofs.Ytmajbcglpcagoaa.B
open Go Go.RowKit Go.Proofs.YtmajbcglpcagoaaW.PrintWords Go.Proofs.YtmajbcglpcagoaaW.PrintLast Go.Proofs.YtmajbcglpcagoaaW.PrintMore
set_option linter.unusedVariables false
set_option linter.unusedSimpArgs false

theorem WS.R {w : World} {n₀ g : Nat} {v : Value} {xs : List Int} (h : WS w n₀ g v xs) : Kd.R (Kd.int .u8) 5 w n₀ (fun _ => True) v xs := ⟨fun _ _ => trivial, _, h.row, reps_u8 _ _ _ xs⟩
set_option maxRecDepth 100000 in
set_option maxHeartbeats 4000000 in
theorem bitioLen_calls (n₀ g : Nat) (v : Value) (xs : List Int) (w : World) (h : WS w n₀ g v xs) :
    Calls Try.prog 16 #[.pointer (some ⟨g, 0, none⟩)] w fun e w' => e = .returned (.int .i64 (xs.length : Int)) ∧ Below w.heap.size w w' := by
  obtain ⟨A, c, rfl⟩ := Kd.R_slice h.R
  have hc := h.box.cell
  go_enter Try.func16, Try.ntmps16
  go_wp2
  go_ret
  exact ⟨by simp, by repeat (first | (with_reducible first | exact Below.refl _ _ | apply below_drew1) | exact Below.refl _ _)⟩
set_option maxRecDepth 100000 in
set_option maxHeartbeats 4000000 in
theorem bitioBytes_calls (n₀ g : Nat) (v : Value) (xs : List Int) (w : World) (h : WS w n₀ g v xs) (k : Nat) (bs : List Int) (r : Int) (hb : bits_Bytes.f k xs = some (bs, r)) :
    Calls Try.prog 15 #[.pointer (some ⟨g, 0, none⟩)] w fun e w' => ∃ u, e = .returned u ∧ Kd.R (Kd.int .u8) 5 w' w.heap.size (fun _ => True) u bs ∧ Below w.heap.size w w' := by
  obtain ⟨A, c, rfl⟩ := Kd.R_slice h.R
  have hR := Kd.R_reads' h.R
  have hc := h.box.cell
  go_enter Try.func15, Try.ntmps15
  go_wp2_with (go_at_call 31; refine (bits_Bytes.calls k _ _ xs bs r _ hR.2.2 hR.2.1 hb).mono ?_; rintro e w1 ⟨u, rfl, hu, hB⟩)
  go_ret
  exact ⟨u, by simp, hu, hB⟩
set_option maxRecDepth 100000 in
set_option maxHeartbeats 4000000 in
theorem bitioLen_nil (w : World) : Calls Try.prog 16 #[.pointer none] w fun e w' => e = .returned (.int .i64 0) ∧ Below w.heap.size w w' := by
  go_enter Try.func16, Try.ntmps16
  go_wp2
  go_ret
  exact ⟨by simp, by repeat (first | (with_reducible first | exact Below.refl _ _ | apply below_drew1) | exact Below.refl _ _)⟩
set_option maxRecDepth 100000 in
set_option maxHeartbeats 4000000 in
theorem bitioBytes_nil (w : World) : Calls Try.prog 15 #[.pointer none] w fun e w' => e = .returned (.slice none 0 0) ∧ Below w.heap.size w w' := by
  go_enter Try.func15, Try.ntmps15
  go_wp2
  go_ret
  exact ⟨by simp, by repeat (first | (with_reducible first | exact Below.refl _ _ | apply below_drew1) | exact Below.refl _ _)⟩
set_option maxRecDepth 100000 in
set_option maxHeartbeats 4000000 in
theorem bitioPut_nil (n wide : Int) (w : World) : Calls Try.prog 13 #[.pointer none, .int .i64 n, .int .i64 wide] w fun e w' => e = .returned (.int .i64 1) ∧ Below w.heap.size w w' := by
  go_enter Try.func13, Try.ntmps13
  go_wp2
  go_ret
  exact ⟨by simp, by repeat (first | (with_reducible first | exact Below.refl _ _ | apply below_drew1) | exact Below.refl _ _)⟩
end Go.Proofs.Ytmajbcglpcagoaa.B
