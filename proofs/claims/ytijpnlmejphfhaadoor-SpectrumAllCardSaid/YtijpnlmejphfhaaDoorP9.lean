-- Made by xprint.py (an own driver round the kit's print.py), with contracts of this session's own. Lean checks it.
import Derived.Test.YtijpnlmejphfhaaDoorP0
import Derived.Test.YtijpnlmejphfhaaDoorP8
namespace Go.Proofs.YtijpnlmejphfhaaDoor.P
open Go.RowKit Go.Proofs.YtijpnlmejphfhaaDoorW.PrintWords Go.Proofs.YtijpnlmejphfhaaDoorW.PrintLast Go.Proofs.YtijpnlmejphfhaaDoorW.PrintMore
attribute [local go_sem] max2_int min2_int max_two min_two max_three min_three max_four min_four   -- for this text's walks alone
set_option linter.unusedVariables false
set_option linter.unusedSimpArgs false

/-! ### conv_out: function 58 -/
attribute [local go_sem] run_index_arr
def conv_outb (a0 t : Int) : Option Int := (bits_OnesCount.f (Go.bits .and .u64 a0 t)).bind fun n => some (Go.bits .and .i64 n 1 % 256)
def conv_out.f (a0 : Int) : Option (Int × Int × Int × Int) := (conv_outb a0 79).bind fun r1 => (conv_outb a0 87).bind fun r2 => (conv_outb a0 109).bind fun r3 => (conv_outb a0 121).bind fun r4 => some (r1, r2, r3, r4)
theorem conv_outb_inv {a0 t r : Int} (h : conv_outb a0 t = some r) : ∃ n, bits_OnesCount.f (Go.bits .and .u64 a0 t) = some n ∧ r = Go.bits .and .i64 n 1 % 256 := by
  obtain ⟨n, h1, h2⟩ := Option.bind_eq_some_iff.mp h
  exact ⟨n, h1, (Option.some.inj h2).symm⟩
theorem conv_out_inv {a0 r1 r2 r3 r4 : Int} (h : conv_out.f a0 = some (r1, r2, r3, r4)) : ∃ n1 n2 n3 n4, bits_OnesCount.f (Go.bits .and .u64 a0 79) = some n1 ∧ Go.bits .and .i64 n1 1 % 256 = r1 ∧
    bits_OnesCount.f (Go.bits .and .u64 a0 87) = some n2 ∧ Go.bits .and .i64 n2 1 % 256 = r2 ∧ bits_OnesCount.f (Go.bits .and .u64 a0 109) = some n3 ∧ Go.bits .and .i64 n3 1 % 256 = r3 ∧
    bits_OnesCount.f (Go.bits .and .u64 a0 121) = some n4 ∧ Go.bits .and .i64 n4 1 % 256 = r4 := by
  unfold conv_out.f at h
  obtain ⟨q1, h1, h⟩ := Option.bind_eq_some_iff.mp h
  obtain ⟨q2, h2, h⟩ := Option.bind_eq_some_iff.mp h
  obtain ⟨q3, h3, h⟩ := Option.bind_eq_some_iff.mp h
  obtain ⟨q4, h4, h⟩ := Option.bind_eq_some_iff.mp h
  simp only [Option.some.injEq, Prod.mk.injEq] at h
  obtain ⟨rfl, rfl, rfl, rfl⟩ := h
  obtain ⟨n1, b1, x1⟩ := conv_outb_inv h1
  obtain ⟨n2, b2, x2⟩ := conv_outb_inv h2
  obtain ⟨n3, b3, x3⟩ := conv_outb_inv h3
  obtain ⟨n4, b4, x4⟩ := conv_outb_inv h4
  exact ⟨n1, n2, n3, n4, b1, x1.symm, b2, x2.symm, b3, x3.symm, b4, x4.symm⟩
/-- The box's cells behind q rounds. -/
def conv_outc (r1 r2 r3 r4 : Int) : Nat → Array Value
  | 0 => #[.int .u8 0, .int .u8 0, .int .u8 0, .int .u8 0]
  | 1 => #[.int .u8 r1, .int .u8 0, .int .u8 0, .int .u8 0]
  | 2 => #[.int .u8 r1, .int .u8 r2, .int .u8 0, .int .u8 0]
  | 3 => #[.int .u8 r1, .int .u8 r2, .int .u8 r3, .int .u8 0]
  | _ => #[.int .u8 r1, .int .u8 r2, .int .u8 r3, .int .u8 r4]
set_option maxRecDepth 100000 in
set_option maxHeartbeats 4000000 in
theorem conv_out.calls (a0 : Int) (r1 : Int) (r2 : Int) (r3 : Int) (r4 : Int) (w : World) (h : conv_out.f a0 = some (r1, r2, r3, r4)) (hT_ : TP w := by first | assumption | exact TP_of (by assumption : TP _) (by repeat (first | (with_reducible first | apply below_alloc | apply pw_below_drewN | apply below_drew1 | refine below_set ?_ (Aside0.out (by assumption))) | exact Aside0.out (by assumption) | exact Below.refl _ _))) :
    Calls Tryd.prog 58 #[.int .u64 a0] w fun e w' => e = .returned (.agg #[.int .u8 r1, .int .u8 r2, .int .u8 r3, .int .u8 r4]) ∧ Below w.heap.size w w' := by
  obtain ⟨n1, n2, n3, n4, b1, x1, b2, x2, b3, x3, b4, x4⟩ := conv_out_inv h
  clear h
  replace b1 := Aside0.mk b1
  replace b2 := Aside0.mk b2
  replace b3 := Aside0.mk b3
  replace b4 := Aside0.mk b4
  go_enter Tryd.func58, Tryd.ntmps58
  have hc0 := hT_.c0
  have hc1 := hT_.c1
  have hc2 := hT_.c2
  have hc3 := hT_.c3
  have hlt := hT_.lt
  go_wp2
  clear hc0 hc1 hc2 hc3
  have hB0 : Below w.heap.size w ((w.alloc (.cells #[.int .u8 0, .int .u8 0, .int .u8 0, .int .u8 0] 56)).alloc (.cells #[.int .u8 0, .int .u8 0, .int .u8 0, .int .u8 0] 56)) := below_alloc (below_alloc (Below.refl _ _) _) _
  have k0 := Aside0.mk (blk_alloc (blk_new w (.cells #[.int .u8 0, .int .u8 0, .int .u8 0, .int .u8 0] 56)) (.cells #[.int .u8 0, .int .u8 0, .int .u8 0, .int .u8 0] 56))
  have k1 := blk_new (w.alloc (.cells #[.int .u8 0, .int .u8 0, .int .u8 0, .int .u8 0] 56)) (.cells #[.int .u8 0, .int .u8 0, .int .u8 0, .int .u8 0] 56)
  rw [World.size_alloc] at k1
  replace k1 := Aside0.mk k1
  replace hB0 := Aside0.mk hB0
  obtain ⟨g0, hg0⟩ : ∃ g0, g0 = w.heap.size := ⟨_, rfl⟩
  obtain ⟨g1, hg1⟩ : ∃ g1, g1 = w.heap.size + 1 := ⟨_, rfl⟩
  have hne : g0 ≠ g1 := by omega
  have l0 : w.heap.size ≤ g0 := by omega
  have l1 : w.heap.size ≤ g1 := by omega
  simp only [← hg1] at k1 ⊢
  rw [← hg0] at k0
  simp only [show Value.pointer (some { block := w.heap.size, off := 0 }) = Value.pointer (some { block := g0, off := 0 }) from by rw [hg0]]
  replace hg0 := Aside0.mk hg0
  replace hg1 := Aside0.mk hg1
  replace l0 := Aside0.mk l0
  replace l1 := Aside0.mk l1
  replace hne := Aside0.mk hne
  replace hlt := Aside0.mk hlt
  go_loopw [7] (fun v7 wr => ∃ q : Nat, q ≤ 4 ∧ v7 = .int .i64 (q : Int) ∧ Aside0 (wr.heap[g0]? = some (.cells #[.int .u8 0, .int .u8 0, .int .u8 0, .int .u8 0] 56 (0, 0))) ∧ Aside0 (wr.heap[g1]? = some (.cells (conv_outc r1 r2 r3 r4 q) 56 (0, 0))) ∧ Aside0 (Below w.heap.size w wr)) (fun v7 _ => 4 - (intOf v7).toNat)
  case atStart => exact ⟨0, by omega, rfl, k0, k1, hB0⟩
  case round =>
    clear k0 k1 hB0
    obtain ⟨q, hq, rfl, k0, k1, HB⟩ := hrel
    obtain rfl | rfl | rfl | rfl | rfl : q = 0 ∨ q = 1 ∨ q = 2 ∨ q = 3 ∨ q = 4 := by omega
    · have hz := (blk_cell k1.out 0).trans (show _ = some (Value.int .u8 0) from rfl)
      have hf := blk_frozen k1.out 0
      go_wp2_with ((with_reducible refine gate_callee (f := 60) rfl ?_); refine goesL_ (some 15) rfl rfl Tryd.func60 (by kernel_rfl) rfl #[.int .u64 (Go.bits .and .u64 a0 79)] rfl (by (try simp only [List.map_toArray, List.map_cons, List.map_nil]); first | done | rfl) ?_; (with_reducible refine (bits_OnesCount.calls (Go.bits .and .u64 a0 79) n1 _ b1.out).mono ?_); rintro e w' ⟨rfl, ⟨nd, rfl⟩⟩; refine ⟨_, rfl, ?_⟩)
      clear hz hf
      go_roundw
      case rel =>
        refine ⟨1, by omega, rfl, ⟨?_⟩, ⟨?_⟩, ⟨?_⟩⟩
        · exact blk_far k0.out hne.out _
        · exact blk_put (cs := conv_outc r1 r2 r3 r4 0) k1.out 0 _ rfl
        · exact below_set (pw_below_drewN HB.out _) l1.out
      case measure => simp [intOf]
    · have hz := (blk_cell k1.out 1).trans (show _ = some (Value.int .u8 0) from rfl)
      have hf := blk_frozen k1.out 1
      go_wp2_with ((with_reducible refine gate_callee (f := 60) rfl ?_); refine goesL_ (some 15) rfl rfl Tryd.func60 (by kernel_rfl) rfl #[.int .u64 (Go.bits .and .u64 a0 87)] rfl (by (try simp only [List.map_toArray, List.map_cons, List.map_nil]); first | done | rfl) ?_; (with_reducible refine (bits_OnesCount.calls (Go.bits .and .u64 a0 87) n2 _ b2.out).mono ?_); rintro e w' ⟨rfl, ⟨nd, rfl⟩⟩; refine ⟨_, rfl, ?_⟩)
      clear hz hf
      go_roundw
      case rel =>
        refine ⟨2, by omega, rfl, ⟨?_⟩, ⟨?_⟩, ⟨?_⟩⟩
        · exact blk_far k0.out hne.out _
        · exact blk_put (cs := conv_outc r1 r2 r3 r4 1) k1.out 1 _ rfl
        · exact below_set (pw_below_drewN HB.out _) l1.out
      case measure => simp [intOf]
    · have hz := (blk_cell k1.out 2).trans (show _ = some (Value.int .u8 0) from rfl)
      have hf := blk_frozen k1.out 2
      go_wp2_with ((with_reducible refine gate_callee (f := 60) rfl ?_); refine goesL_ (some 15) rfl rfl Tryd.func60 (by kernel_rfl) rfl #[.int .u64 (Go.bits .and .u64 a0 109)] rfl (by (try simp only [List.map_toArray, List.map_cons, List.map_nil]); first | done | rfl) ?_; (with_reducible refine (bits_OnesCount.calls (Go.bits .and .u64 a0 109) n3 _ b3.out).mono ?_); rintro e w' ⟨rfl, ⟨nd, rfl⟩⟩; refine ⟨_, rfl, ?_⟩)
      clear hz hf
      go_roundw
      case rel =>
        refine ⟨3, by omega, rfl, ⟨?_⟩, ⟨?_⟩, ⟨?_⟩⟩
        · exact blk_far k0.out hne.out _
        · exact blk_put (cs := conv_outc r1 r2 r3 r4 2) k1.out 2 _ rfl
        · exact below_set (pw_below_drewN HB.out _) l1.out
      case measure => simp [intOf]
    · have hz := (blk_cell k1.out 3).trans (show _ = some (Value.int .u8 0) from rfl)
      have hf := blk_frozen k1.out 3
      go_wp2_with ((with_reducible refine gate_callee (f := 60) rfl ?_); refine goesL_ (some 15) rfl rfl Tryd.func60 (by kernel_rfl) rfl #[.int .u64 (Go.bits .and .u64 a0 121)] rfl (by (try simp only [List.map_toArray, List.map_cons, List.map_nil]); first | done | rfl) ?_; (with_reducible refine (bits_OnesCount.calls (Go.bits .and .u64 a0 121) n4 _ b4.out).mono ?_); rintro e w' ⟨rfl, ⟨nd, rfl⟩⟩; refine ⟨_, rfl, ?_⟩)
      clear hz hf
      go_roundw
      case rel =>
        refine ⟨4, by omega, rfl, ⟨?_⟩, ⟨?_⟩, ⟨?_⟩⟩
        · exact blk_far k0.out hne.out _
        · exact blk_put (cs := conv_outc r1 r2 r3 r4 3) k1.out 3 _ rfl
        · exact below_set (pw_below_drewN HB.out _) l1.out
      case measure => simp [intOf]
    · have hz0 := (blk_cell k1.out 0).trans (show _ = some (Value.int .u8 r1) from rfl)
      have hz1 := (blk_cell k1.out 1).trans (show _ = some (Value.int .u8 r2) from rfl)
      have hz2 := (blk_cell k1.out 2).trans (show _ = some (Value.int .u8 r3) from rfl)
      have hz3 := (blk_cell k1.out 3).trans (show _ = some (Value.int .u8 r4) from rfl)
      have y0 := (blk_cell k0.out 0).trans (show _ = some (Value.int .u8 0) from rfl)
      have y1 := (blk_cell k0.out 1).trans (show _ = some (Value.int .u8 0) from rfl)
      have y2 := (blk_cell k0.out 2).trans (show _ = some (Value.int .u8 0) from rfl)
      have y3 := (blk_cell k0.out 3).trans (show _ = some (Value.int .u8 0) from rfl)
      have f0 := blk_frozen k0.out 0
      have f1 := blk_frozen k0.out 1
      have f2 := blk_frozen k0.out 2
      have f3 := blk_frozen k0.out 3
      go_wp2
      have kk := blk_put (blk_put (blk_put (blk_put k0.out 0 (.int .u8 r1) (cs' := #[.int .u8 r1, .int .u8 0, .int .u8 0, .int .u8 0]) rfl) 1 (.int .u8 r2) (cs' := #[.int .u8 r1, .int .u8 r2, .int .u8 0, .int .u8 0]) rfl) 2 (.int .u8 r3) (cs' := #[.int .u8 r1, .int .u8 r2, .int .u8 r3, .int .u8 0]) rfl) 3 (.int .u8 r4) (cs' := #[.int .u8 r1, .int .u8 r2, .int .u8 r3, .int .u8 r4]) rfl
      refine bodyPost_ret (results_cell_row rfl _ _ g0 56 #[.int .u8 r1, .int .u8 r2, .int .u8 r3, .int .u8 r4] (0, 0) _ rfl kk Tryd.underlying56 rfl (by kernel_rfl)) rfl ?_
      exact ⟨rfl, below_set (below_set (below_set (below_set HB.out l0.out) l0.out) l0.out) l0.out⟩

end Go.Proofs.YtijpnlmejphfhaaDoor.P
