/- The law's own first look (have two numbers their byte?) by hand, and a new writer. No condition. -/
import Derived.Test.YtmajbcglpcagoaaBBitioW2
namespace Go.Proofs.Ytmajbcglpcagoaa.B
open Go Go.RowKit Go.Proofs.YtmajbcglpcagoaaW.PrintWords Go.Proofs.YtmajbcglpcagoaaW.PrintLast Go.Proofs.YtmajbcglpcagoaaW.PrintMore
set_option linter.unusedVariables false
set_option linter.unusedSimpArgs false

theorem WS.new (w : World) : WS (w.alloc (.cells #[.slice none 0 0] 37)) w.heap.size w.heap.size (.slice none 0 0) [] :=
  ⟨Boxed.new w 37 _, Nat.le_refl _, rfl, .inl ⟨rfl, rfl⟩⟩
theorem WS.own {w : World} {n₀ g : Nat} {v : Value} {xs : List Int} (h : WS w n₀ g v xs) : ∀ b, v.ownBlock = some b → n₀ ≤ b := fun b hb => (h.row.lt b hb).1
theorem puts_bytes : bits_Bytes.f 100 [1, 0, 1, 0, 1] = some ([168], 0) := by decide +kernel
set_option maxRecDepth 100000 in
set_option maxHeartbeats 4000000 in
theorem puts_calls (w : World) : Calls Try.prog 14 #[] w fun e w' => e = .returned (.bool true) ∧ Below w.heap.size w w' := by
  have p1 : putE 5 3 = 0 := by decide +kernel
  have p2 : putE 1 2 = 0 := by decide +kernel
  have l1 : putL 5 3 = [1, 0, 1] := by decide +kernel
  have l2 : putL 1 2 = [0, 1] := by decide +kernel
  have hs : ((strOfNums [168]).toList == [168]) = true := by decide +kernel
  go_enter Try.func14, Try.ntmps14
  have h0 := WS.new w
  go_wp2_with (go_at_call 13; refine (bitioPut_calls _ _ _ _ 5 3 _ h0 (by simp)).mono ?_; rintro e w1 ⟨rfl, v1, h1, hf1, hn1⟩; rw [l1] at h1; simp only [p1]; go_wp2_with (go_at_call 13; refine (bitioPut_calls _ _ _ _ 1 2 _ h1 (by simp)).mono ?_; rintro e w2 ⟨rfl, v2, h2, hf2, hn2⟩; rw [l2] at h2; simp only [p2]; go_wp2_with (go_at_call 15; refine (bitioBytes_calls _ _ _ _ _ h2 100 [168] 0 puts_bytes).mono ?_; rintro e w3 ⟨u, rfl, hu, hb⟩; have h3 := h2.below hb; have hcv := own_string (P := Try.prog) Try.underlying22 Try.underlying5 Try.underlying9 (Kd.own_of_R hu); go_wp2_with (go_at_call 16; refine (bitioLen_calls _ _ _ _ _ h3).mono ?_; rintro e w4 ⟨rfl, hb4⟩))))
  go_ret
  refine ⟨by simp [hs], ?_⟩
  have b0 : Below w.heap.size w (w.alloc (.cells #[.slice none 0 0] 37)) := below_alloc (Below.refl _ _) _
  have hfr := Fr.trans hf1 hn1 hf2
  have b1 := hfr.below (B := w.heap.size) (by simp) (Nat.le_refl _) (fun b hb => h0.own b hb)
  exact below_step (below_step (Below.trans b0 b1) hb) hb4
end Go.Proofs.Ytmajbcglpcagoaa.B
