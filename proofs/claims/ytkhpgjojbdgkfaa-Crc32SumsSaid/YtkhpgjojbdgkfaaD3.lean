-- Made by xprint.py (an own driver round the kit's print.py), with contracts of this session's own. Lean checks it.
import Derived.Test.YtkhpgjojbdgkfaaD0
import Derived.Test.YtkhpgjojbdgkfaaD2
namespace Go.Proofs.Ytkhpgjojbdgkfaa.D
open Go.RowKit Go.Proofs.YtkhpgjojbdgkfaaW.PrintWords Go.Proofs.YtkhpgjojbdgkfaaW.PrintLast Go.Proofs.YtkhpgjojbdgkfaaW.PrintMore
attribute [local go_sem] max2_int min2_int max_two min_two max_three min_three max_four min_four   -- for this text's walks alone
set_option linter.unusedVariables false
set_option linter.unusedSimpArgs false

/-! ### shuttlelaw04_sums: function 14 -/
def shuttlelaw04_sums.f : Option Bool := (crc32_Sum.f ([49, 50, 51, 52, 53, 54, 55, 56, 57] : List Int)).bind fun t => some (t == 3421780262)
set_option maxHeartbeats 8000000 in
set_option maxRecDepth 100000 in
theorem shuttlelaw04_sums.calls (r : Bool) (w : World) (h : shuttlelaw04_sums.f = some r) :
    Calls Try.prog 14 #[] w fun e w' => e = .returned (.bool r) ∧ Below w.heap.size w w' := by
  obtain ⟨t, A1, H⟩ := Option.bind_eq_some_iff.mp h
  have hr := Option.some.inj H
  have A := Aside0.mk A1
  have HR := Aside0.mk (const_reads w 5 .u8 [49, 50, 51, 52, 53, 54, 55, 56, 57] #[.int .u8 49, .int .u8 50, .int .u8 51, .int .u8 52, .int .u8 53, .int .u8 54, .int .u8 55, .int .u8 56, .int .u8 57] (9, 10) rfl (by decide))
  have HB := Aside0.mk (below_alloc (Below.refl w.heap.size w) (.cells #[.int .u8 49, .int .u8 50, .int .u8 51, .int .u8 52, .int .u8 53, .int .u8 54, .int .u8 55, .int .u8 56, .int .u8 57] 5 (9, 10)))
  subst hr
  clear h A1 H
  have kc := fun (w : World) (C : Array Value) (n c : Nat) => Lib.run_convert_bytes_const (P := Try.prog) w 22 5 C n c Try.underlying22 Try.underlying5
  go_enter Try.func14, Try.ntmps14
  go_wp2_with ((with_reducible refine gate_callee (f := 15) rfl ?_); refine goesL_ (some 3) rfl rfl Try.func15 (by kernel_rfl) rfl #[.slice (some ⟨w.heap.size, 0, none⟩) 9 9] rfl (by (try simp only [List.map_toArray, List.map_cons, List.map_nil]); first | done | rfl) ?_; refine (crc32_Sum.calls _ _ [49, 50, 51, 52, 53, 54, 55, 56, 57] t _ ?side1 ?side2 A.out).mono ?_; (case side1 => exact HR.out); (case side2 => exact Nat.le_refl _); rintro e w' ⟨rfl, hb⟩; refine ⟨_, rfl, ?_⟩)
  go_ret
  exact ⟨rfl, below_step HB.out hb⟩

end Go.Proofs.Ytkhpgjojbdgkfaa.D
