-- Made by xprint.py (an own driver round the kit's print.py), with contracts of this session's own. Lean checks it.
import Derived.Test.YtmajbcglpcagoaaDoorX0
import Derived.Test.YtmajbcglpcagoaaDoorX12
import Derived.Test.YtmajbcglpcagoaaDoorX14
namespace Go.Proofs.YtmajbcglpcagoaaDoor.X
open Go.RowKit Go.Proofs.YtmajbcglpcagoaaDoorW.PrintWords Go.Proofs.YtmajbcglpcagoaaDoorW.PrintLast Go.Proofs.YtmajbcglpcagoaaDoorW.PrintMore
attribute [local go_sem] max2_int min2_int max_two min_two max_three min_three max_four min_four   -- for this text's walks alone
set_option linter.unusedVariables false
set_option linter.unusedSimpArgs false

/-! ### shuttlelaw07_TrellisBack: function 4 -/
def shuttlelaw07_TrellisBack.l0 : Nat → Int → Int → Option (Bool)
  | 0, _, _ => none
  | k + 1, x4, x5 => if x5 < 6 then ((trellis_From.f x4).bind fun bt298 => (if bt298.2.2.2.2.2.2.2.2.2.2.2.2.2.2 = 0 then (if bt298.2.2.1 = 0 then (shuttlelaw07_TrellisBack.l0 k bt298.2.1 (wrap64 (x5 + 1))) else (some false)) else (some false))) else ((shuttlelaw07_leads.f).bind fun t314 => (if t314 = true then (some (x4 == 0)) else (some false)))
def shuttlelaw07_TrellisBack.f (k : Nat) (a0 : Int) : Option (Bool) := shuttlelaw07_TrellisBack.l0 k (wrap64 (Int.tmod (IntKind.u64.wrap (a0)) 64)) 0
theorem shuttlelaw07_TrellisBack.mono_l : ∀ k, (∀ y0 y1, LeO (shuttlelaw07_TrellisBack.l0 k y0 y1) (shuttlelaw07_TrellisBack.l0 (k + 1) y0 y1))
  | 0 => fun _ _ r h => by simp [shuttlelaw07_TrellisBack.l0] at h
  | k + 1 => by
    have ih0 := shuttlelaw07_TrellisBack.mono_l k
    · intro y0 y1
      unfold shuttlelaw07_TrellisBack.l0
      repeat' first
      | (with_reducible exact ih0 _ _)
      | (with_reducible exact LeO.refl _)
      | (with_reducible exact LeO.none _)
      | (with_reducible refine LeO.ite ?_ ?_)
      | (with_reducible refine LeO.bind ?_ (fun _ => ?_))
      | exact ih0 _ _
      | exact LeO.none _
      | refine LeO.ite ?_ ?_
      | refine LeO.bind ?_ (fun _ => ?_)
theorem shuttlelaw07_TrellisBack.mono : ∀ a0 k, LeO (shuttlelaw07_TrellisBack.f k a0) (shuttlelaw07_TrellisBack.f (k + 1) a0) := by
  intro a0 k
  have ih0 := shuttlelaw07_TrellisBack.mono_l k
  unfold shuttlelaw07_TrellisBack.f
  repeat' first
      | (with_reducible exact ih0 _ _)
      | (with_reducible exact LeO.refl _)
      | (with_reducible exact LeO.none _)
      | (with_reducible refine LeO.ite ?_ ?_)
      | (with_reducible refine LeO.bind ?_ (fun _ => ?_))
      | exact ih0 _ _
      | exact LeO.none _
      | refine LeO.ite ?_ ?_
      | refine LeO.bind ?_ (fun _ => ?_)
set_option maxHeartbeats 8000000 in
set_option maxRecDepth 100000 in
theorem shuttlelaw07_TrellisBack.calls (k : Nat) (a0 : Int) (r : Bool) (w : World) (h : shuttlelaw07_TrellisBack.f k a0 = some r) (hT_ : TP w := by first | assumption | exact TP_of (by assumption : TP _) (by repeat (first | (with_reducible first | apply below_alloc | apply pw_below_drewN | apply below_drew1 | refine below_set ?_ (Aside0.out (by assumption))) | exact Aside0.out (by assumption) | exact Below.refl _ _))) :
    Calls Tryd.prog 4 #[.int .i64 a0] w fun e w' => e = .returned (.bool r) ∧ Below w.heap.size w w' := by
  have hu25 := Tryd.underlying25
  have HB := Aside0.mk (Below.refl w.heap.size w)
  have H : (shuttlelaw07_TrellisBack.l0 k (wrap64 (Int.tmod (IntKind.u64.wrap (a0)) 64)) 0) = some r := h
  clear h
  have H' := Aside0.mk H
  clear H
  go_enter Tryd.func4, Tryd.ntmps4
  go_wp2
  go_loopg [4, 5] k (fun kq v4 v5 w' => ∃ (x4_1 : Int) (x5_1 : Int), v4 = .int .i64 x4_1 ∧ v5 = .int .i64 x5_1 ∧ Aside0 (shuttlelaw07_TrellisBack.l0 kq x4_1 x5_1 = some r) ∧ Aside0 (kq ≤ k) ∧ Aside0 (Below w.heap.size w w'))
  case atStart => exact ⟨(wrap64 (Int.tmod (IntKind.u64.wrap (a0)) 64)), (0), (by first | rfl | (simp; done) | (simp [*]; done)), (by first | rfl | (simp; done) | (simp [*]; done)), H', ⟨Nat.le_refl _⟩, ⟨by repeat (first | (with_reducible first | exact HB.out | apply below_alloc | apply pw_below_drewN | apply below_drew1) | exact HB.out)⟩⟩
  case round =>
    clear H'
    obtain ⟨x4_1, x5_1, rfl, rfl, HA, HK1, HB⟩ := hrel
    cases gk with
    | zero => exact absurd HA.out (by simp [shuttlelaw07_TrellisBack.l0])
    | succ k1 =>
      have H := HA.out
      clear HA
      simp only [shuttlelaw07_TrellisBack.l0] at H
      by_cases c2 : x5_1 < 6
      · rw [if_pos c2] at H
        have c2b0 : decide (x5_1 < 6) = true := decide_eq_true c2
        clear c2
        replace H := Option.bind_eq_some_iff.mp H
        obtain ⟨⟨t298, t299, t300, t301, t302, t303, t304, t305, t306, t307, t308, t309, t310, t311, t312⟩, A30, H⟩ := H
        replace H : (if t312 = 0 then (if t300 = 0 then (shuttlelaw07_TrellisBack.l0 k1 t299 (wrap64 (x5_1 + 1))) else (some false)) else (some false)) = some r := H
        have A3 := Aside0.mk A30
        clear A30
        by_cases c4 : t312 = 0
        · rw [if_pos c4] at H
          have c4b0 : (t312 == 0) = true := beq_iff_eq.mpr c4
          have c4b1 : (t312 != 0) = false := bne_eq_false_iff_eq.mpr c4
          clear c4
          by_cases c5 : t300 = 0
          · rw [if_pos c5] at H
            have c5b0 : (t300 == 0) = true := beq_iff_eq.mpr c5
            have c5b1 : (t300 != 0) = false := bne_eq_false_iff_eq.mpr c5
            clear c5
            have H' := Aside0.mk H
            clear H
            go_wp2_with (first | ((with_reducible refine gate_callee (f := 9) rfl ?_); refine goesL_ (some 19) rfl rfl Tryd.func9 (by kernel_rfl) rfl #[.int .i64 x4_1] rfl (by (try simp only [List.map_toArray, List.map_cons, List.map_nil]); first | done | rfl | (simp only [List.length_drop, List.length_take]; rfl)) ?_; (with_reducible refine (trellis_From.calls x4_1 t298 t299 t300 t301 t302 t303 t304 t305 t306 t307 t308 t309 t310 t311 t312 _ A3.out).mono ?_); rintro e w6 ⟨rfl, hb⟩; refine ⟨_, rfl, ?_⟩; have n0_ := Aside0.mk (below_step (by repeat (first | (with_reducible first | exact HB.out | apply below_alloc | apply pw_below_drewN | apply below_drew1) | exact HB.out)) hb); clear HB; have HB := n0_; clear n0_; (try clear hb); (try clear hb2); (try clear hk); (try clear hi)) | ((with_reducible refine gate_dst (N := 6) rfl ?_); refine box_event ?hg (N := 6) ?hd (cs := #[.int .i64 0, .int .i64 0, .int .u8 0, .int .u8 0, .int .u8 0, .int .u8 0, .int .u8 0, .int .i64 0, .int .i64 0, .int .u8 0, .int .u8 0, .int .u8 0, .int .u8 0, .int .u8 0]) (t := 25) ?hr ?_; (case hd => rfl); (case hg => rfl); (case hr => first | (go_simp; done) | (go_simp; rfl)); intro gb313 hg w7 hbox hb; have n0_ := Aside0.mk (below_step (by repeat (first | (with_reducible first | exact HB.out | apply below_alloc | apply pw_below_drewN | apply below_drew1) | exact HB.out)) hb); have n1_ := Aside0.mk (hbox); have n2_ := Aside0.mk ((by rw [hg]; exact (below_size (by repeat (first | (with_reducible first | exact HB.out | apply below_alloc | apply pw_below_drewN | apply below_drew1) | exact HB.out))) : w.heap.size ≤ gb313)); have n3_ := Aside0.mk ((by rw [hg]; exact (below_size (by repeat (first | (with_reducible first | exact HB.out | apply below_alloc | apply pw_below_drewN | apply below_drew1) | exact HB.out))) : w.heap.size ≤ gb313)); clear HB; have HB := n0_; have BK313 := n1_; have GW313 := n2_; have GE313 := n3_; clear n0_ n1_ n2_ n3_; clear hb hbox hg; have hcz8_0 : w7.cell? ⟨gb313, 0, none⟩ = some (.int .i64 0) := (blk_cell BK313.out 0).trans rfl; have hcz8_1 : w7.cell? ⟨gb313, 1, none⟩ = some (.int .i64 0) := (blk_cell BK313.out 1).trans rfl; have hcz8_2 : w7.cell? ⟨gb313, 2, none⟩ = some (.int .u8 0) := (blk_cell BK313.out 2).trans rfl; have hcz8_3 : w7.cell? ⟨gb313, 3, none⟩ = some (.int .u8 0) := (blk_cell BK313.out 3).trans rfl; have hcz8_4 : w7.cell? ⟨gb313, 4, none⟩ = some (.int .u8 0) := (blk_cell BK313.out 4).trans rfl; have hcz8_5 : w7.cell? ⟨gb313, 5, none⟩ = some (.int .u8 0) := (blk_cell BK313.out 5).trans rfl; have hcz8_6 : w7.cell? ⟨gb313, 6, none⟩ = some (.int .u8 0) := (blk_cell BK313.out 6).trans rfl; have hcz8_7 : w7.cell? ⟨gb313, 7, none⟩ = some (.int .i64 0) := (blk_cell BK313.out 7).trans rfl; have hcz8_8 : w7.cell? ⟨gb313, 8, none⟩ = some (.int .i64 0) := (blk_cell BK313.out 8).trans rfl; have hcz8_9 : w7.cell? ⟨gb313, 9, none⟩ = some (.int .u8 0) := (blk_cell BK313.out 9).trans rfl; have hcz8_10 : w7.cell? ⟨gb313, 10, none⟩ = some (.int .u8 0) := (blk_cell BK313.out 10).trans rfl; have hcz8_11 : w7.cell? ⟨gb313, 11, none⟩ = some (.int .u8 0) := (blk_cell BK313.out 11).trans rfl; have hcz8_12 : w7.cell? ⟨gb313, 12, none⟩ = some (.int .u8 0) := (blk_cell BK313.out 12).trans rfl; have hcz8_13 : w7.cell? ⟨gb313, 13, none⟩ = some (.int .u8 0) := (blk_cell BK313.out 13).trans rfl; have hfz8_0 := blk_frozen BK313.out 0; have hfz8_1 := blk_frozen BK313.out 1; have hfz8_2 := blk_frozen BK313.out 2; have hfz8_3 := blk_frozen BK313.out 3; have hfz8_4 := blk_frozen BK313.out 4; have hfz8_5 := blk_frozen BK313.out 5; have hfz8_6 := blk_frozen BK313.out 6; have hfz8_7 := blk_frozen BK313.out 7; have hfz8_8 := blk_frozen BK313.out 8; have hfz8_9 := blk_frozen BK313.out 9; have hfz8_10 := blk_frozen BK313.out 10; have hfz8_11 := blk_frozen BK313.out 11; have hfz8_12 := blk_frozen BK313.out 12; have hfz8_13 := blk_frozen BK313.out 13))
            go_roundg k1
            case measure => have := HK1.out; omega
            case rel => exact ⟨(t299), (wrap64 (x5_1 + 1)), (by first | rfl | (simp; done) | (simp [*]; done)), (by first | rfl | (simp; done) | (simp [*]; done)), H', ⟨by have := HK1.out; omega⟩, ⟨by repeat (first | (with_reducible first | exact HB.out | apply below_alloc | apply pw_below_drewN | apply below_drew1 | refine below_set ?_ GE313.out) | exact HB.out)⟩⟩
          · rw [if_neg c5] at H
            have c5b0 : (t300 == 0) = false := beq_eq_false_iff_ne.mpr c5
            have c5b1 : (t300 != 0) = true := bne_iff_ne.mpr c5
            obtain rfl := Option.some.inj H
            go_wp2_with (first | ((with_reducible refine gate_callee (f := 9) rfl ?_); refine goesL_ (some 19) rfl rfl Tryd.func9 (by kernel_rfl) rfl #[.int .i64 x4_1] rfl (by (try simp only [List.map_toArray, List.map_cons, List.map_nil]); first | done | rfl | (simp only [List.length_drop, List.length_take]; rfl)) ?_; (with_reducible refine (trellis_From.calls x4_1 t298 t299 t300 t301 t302 t303 t304 t305 t306 t307 t308 t309 t310 t311 t312 _ A3.out).mono ?_); rintro e w9 ⟨rfl, hb⟩; refine ⟨_, rfl, ?_⟩; have n0_ := Aside0.mk (below_step (by repeat (first | (with_reducible first | exact HB.out | apply below_alloc | apply pw_below_drewN | apply below_drew1) | exact HB.out)) hb); clear HB; have HB := n0_; clear n0_; (try clear hb); (try clear hb2); (try clear hk); (try clear hi)) | ((with_reducible refine gate_dst (N := 6) rfl ?_); refine box_event ?hg (N := 6) ?hd (cs := #[.int .i64 0, .int .i64 0, .int .u8 0, .int .u8 0, .int .u8 0, .int .u8 0, .int .u8 0, .int .i64 0, .int .i64 0, .int .u8 0, .int .u8 0, .int .u8 0, .int .u8 0, .int .u8 0]) (t := 25) ?hr ?_; (case hd => rfl); (case hg => rfl); (case hr => first | (go_simp; done) | (go_simp; rfl)); intro gb313 hg w10 hbox hb; have n0_ := Aside0.mk (below_step (by repeat (first | (with_reducible first | exact HB.out | apply below_alloc | apply pw_below_drewN | apply below_drew1) | exact HB.out)) hb); have n1_ := Aside0.mk (hbox); have n2_ := Aside0.mk ((by rw [hg]; exact (below_size (by repeat (first | (with_reducible first | exact HB.out | apply below_alloc | apply pw_below_drewN | apply below_drew1) | exact HB.out))) : w.heap.size ≤ gb313)); have n3_ := Aside0.mk ((by rw [hg]; exact (below_size (by repeat (first | (with_reducible first | exact HB.out | apply below_alloc | apply pw_below_drewN | apply below_drew1) | exact HB.out))) : w.heap.size ≤ gb313)); clear HB; have HB := n0_; have BK313 := n1_; have GW313 := n2_; have GE313 := n3_; clear n0_ n1_ n2_ n3_; clear hb hbox hg; have hcz11_0 : w10.cell? ⟨gb313, 0, none⟩ = some (.int .i64 0) := (blk_cell BK313.out 0).trans rfl; have hcz11_1 : w10.cell? ⟨gb313, 1, none⟩ = some (.int .i64 0) := (blk_cell BK313.out 1).trans rfl; have hcz11_2 : w10.cell? ⟨gb313, 2, none⟩ = some (.int .u8 0) := (blk_cell BK313.out 2).trans rfl; have hcz11_3 : w10.cell? ⟨gb313, 3, none⟩ = some (.int .u8 0) := (blk_cell BK313.out 3).trans rfl; have hcz11_4 : w10.cell? ⟨gb313, 4, none⟩ = some (.int .u8 0) := (blk_cell BK313.out 4).trans rfl; have hcz11_5 : w10.cell? ⟨gb313, 5, none⟩ = some (.int .u8 0) := (blk_cell BK313.out 5).trans rfl; have hcz11_6 : w10.cell? ⟨gb313, 6, none⟩ = some (.int .u8 0) := (blk_cell BK313.out 6).trans rfl; have hcz11_7 : w10.cell? ⟨gb313, 7, none⟩ = some (.int .i64 0) := (blk_cell BK313.out 7).trans rfl; have hcz11_8 : w10.cell? ⟨gb313, 8, none⟩ = some (.int .i64 0) := (blk_cell BK313.out 8).trans rfl; have hcz11_9 : w10.cell? ⟨gb313, 9, none⟩ = some (.int .u8 0) := (blk_cell BK313.out 9).trans rfl; have hcz11_10 : w10.cell? ⟨gb313, 10, none⟩ = some (.int .u8 0) := (blk_cell BK313.out 10).trans rfl; have hcz11_11 : w10.cell? ⟨gb313, 11, none⟩ = some (.int .u8 0) := (blk_cell BK313.out 11).trans rfl; have hcz11_12 : w10.cell? ⟨gb313, 12, none⟩ = some (.int .u8 0) := (blk_cell BK313.out 12).trans rfl; have hcz11_13 : w10.cell? ⟨gb313, 13, none⟩ = some (.int .u8 0) := (blk_cell BK313.out 13).trans rfl; have hfz11_0 := blk_frozen BK313.out 0; have hfz11_1 := blk_frozen BK313.out 1; have hfz11_2 := blk_frozen BK313.out 2; have hfz11_3 := blk_frozen BK313.out 3; have hfz11_4 := blk_frozen BK313.out 4; have hfz11_5 := blk_frozen BK313.out 5; have hfz11_6 := blk_frozen BK313.out 6; have hfz11_7 := blk_frozen BK313.out 7; have hfz11_8 := blk_frozen BK313.out 8; have hfz11_9 := blk_frozen BK313.out 9; have hfz11_10 := blk_frozen BK313.out 10; have hfz11_11 := blk_frozen BK313.out 11; have hfz11_12 := blk_frozen BK313.out 12; have hfz11_13 := blk_frozen BK313.out 13))
            go_ret
            exact ⟨by first | rfl | (simp [errW_none, errW_some] <;> rfl) | (simp [*, errW_none, errW_some] <;> rfl), by repeat (first | (with_reducible first | exact HB.out | apply below_alloc | apply pw_below_drewN | apply below_drew1 | refine below_set ?_ GE313.out) | exact HB.out)⟩
        · rw [if_neg c4] at H
          have c4b0 : (t312 == 0) = false := beq_eq_false_iff_ne.mpr c4
          have c4b1 : (t312 != 0) = true := bne_iff_ne.mpr c4
          obtain rfl := Option.some.inj H
          go_wp2_with (first | ((with_reducible refine gate_callee (f := 9) rfl ?_); refine goesL_ (some 19) rfl rfl Tryd.func9 (by kernel_rfl) rfl #[.int .i64 x4_1] rfl (by (try simp only [List.map_toArray, List.map_cons, List.map_nil]); first | done | rfl | (simp only [List.length_drop, List.length_take]; rfl)) ?_; (with_reducible refine (trellis_From.calls x4_1 t298 t299 t300 t301 t302 t303 t304 t305 t306 t307 t308 t309 t310 t311 t312 _ A3.out).mono ?_); rintro e w12 ⟨rfl, hb⟩; refine ⟨_, rfl, ?_⟩; have n0_ := Aside0.mk (below_step (by repeat (first | (with_reducible first | exact HB.out | apply below_alloc | apply pw_below_drewN | apply below_drew1) | exact HB.out)) hb); clear HB; have HB := n0_; clear n0_; (try clear hb); (try clear hb2); (try clear hk); (try clear hi)) | ((with_reducible refine gate_dst (N := 6) rfl ?_); refine box_event ?hg (N := 6) ?hd (cs := #[.int .i64 0, .int .i64 0, .int .u8 0, .int .u8 0, .int .u8 0, .int .u8 0, .int .u8 0, .int .i64 0, .int .i64 0, .int .u8 0, .int .u8 0, .int .u8 0, .int .u8 0, .int .u8 0]) (t := 25) ?hr ?_; (case hd => rfl); (case hg => rfl); (case hr => first | (go_simp; done) | (go_simp; rfl)); intro gb313 hg w13 hbox hb; have n0_ := Aside0.mk (below_step (by repeat (first | (with_reducible first | exact HB.out | apply below_alloc | apply pw_below_drewN | apply below_drew1) | exact HB.out)) hb); have n1_ := Aside0.mk (hbox); have n2_ := Aside0.mk ((by rw [hg]; exact (below_size (by repeat (first | (with_reducible first | exact HB.out | apply below_alloc | apply pw_below_drewN | apply below_drew1) | exact HB.out))) : w.heap.size ≤ gb313)); have n3_ := Aside0.mk ((by rw [hg]; exact (below_size (by repeat (first | (with_reducible first | exact HB.out | apply below_alloc | apply pw_below_drewN | apply below_drew1) | exact HB.out))) : w.heap.size ≤ gb313)); clear HB; have HB := n0_; have BK313 := n1_; have GW313 := n2_; have GE313 := n3_; clear n0_ n1_ n2_ n3_; clear hb hbox hg; have hcz14_0 : w13.cell? ⟨gb313, 0, none⟩ = some (.int .i64 0) := (blk_cell BK313.out 0).trans rfl; have hcz14_1 : w13.cell? ⟨gb313, 1, none⟩ = some (.int .i64 0) := (blk_cell BK313.out 1).trans rfl; have hcz14_2 : w13.cell? ⟨gb313, 2, none⟩ = some (.int .u8 0) := (blk_cell BK313.out 2).trans rfl; have hcz14_3 : w13.cell? ⟨gb313, 3, none⟩ = some (.int .u8 0) := (blk_cell BK313.out 3).trans rfl; have hcz14_4 : w13.cell? ⟨gb313, 4, none⟩ = some (.int .u8 0) := (blk_cell BK313.out 4).trans rfl; have hcz14_5 : w13.cell? ⟨gb313, 5, none⟩ = some (.int .u8 0) := (blk_cell BK313.out 5).trans rfl; have hcz14_6 : w13.cell? ⟨gb313, 6, none⟩ = some (.int .u8 0) := (blk_cell BK313.out 6).trans rfl; have hcz14_7 : w13.cell? ⟨gb313, 7, none⟩ = some (.int .i64 0) := (blk_cell BK313.out 7).trans rfl; have hcz14_8 : w13.cell? ⟨gb313, 8, none⟩ = some (.int .i64 0) := (blk_cell BK313.out 8).trans rfl; have hcz14_9 : w13.cell? ⟨gb313, 9, none⟩ = some (.int .u8 0) := (blk_cell BK313.out 9).trans rfl; have hcz14_10 : w13.cell? ⟨gb313, 10, none⟩ = some (.int .u8 0) := (blk_cell BK313.out 10).trans rfl; have hcz14_11 : w13.cell? ⟨gb313, 11, none⟩ = some (.int .u8 0) := (blk_cell BK313.out 11).trans rfl; have hcz14_12 : w13.cell? ⟨gb313, 12, none⟩ = some (.int .u8 0) := (blk_cell BK313.out 12).trans rfl; have hcz14_13 : w13.cell? ⟨gb313, 13, none⟩ = some (.int .u8 0) := (blk_cell BK313.out 13).trans rfl; have hfz14_0 := blk_frozen BK313.out 0; have hfz14_1 := blk_frozen BK313.out 1; have hfz14_2 := blk_frozen BK313.out 2; have hfz14_3 := blk_frozen BK313.out 3; have hfz14_4 := blk_frozen BK313.out 4; have hfz14_5 := blk_frozen BK313.out 5; have hfz14_6 := blk_frozen BK313.out 6; have hfz14_7 := blk_frozen BK313.out 7; have hfz14_8 := blk_frozen BK313.out 8; have hfz14_9 := blk_frozen BK313.out 9; have hfz14_10 := blk_frozen BK313.out 10; have hfz14_11 := blk_frozen BK313.out 11; have hfz14_12 := blk_frozen BK313.out 12; have hfz14_13 := blk_frozen BK313.out 13))
          go_ret
          exact ⟨by first | rfl | (simp [errW_none, errW_some] <;> rfl) | (simp [*, errW_none, errW_some] <;> rfl), by repeat (first | (with_reducible first | exact HB.out | apply below_alloc | apply pw_below_drewN | apply below_drew1 | refine below_set ?_ GE313.out) | exact HB.out)⟩
      · rw [if_neg c2] at H
        have c2b0 : decide (x5_1 < 6) = false := decide_eq_false c2
        clear c2
        replace H := Option.bind_eq_some_iff.mp H
        obtain ⟨t314, A150, H⟩ := H
        replace H : (if t314 = true then (some (x4_1 == 0)) else (some false)) = some r := H
        have A15 := Aside0.mk A150
        clear A150
        by_cases c16 : t314 = true
        · subst c16
          have H1 : (some (x4_1 == 0)) = some r := by rw [if_pos rfl] at H; exact H
          clear H
          have H := H1
          clear H1
          obtain rfl := Option.some.inj H
          go_wp2_with (first | ((with_reducible refine gate_callee (f := 11) rfl ?_); refine goesL_ (some 33) rfl rfl Tryd.func11 (by kernel_rfl) rfl #[] rfl (by (try simp only [List.map_toArray, List.map_cons, List.map_nil]); first | done | rfl | (simp only [List.length_drop, List.length_take]; rfl)) ?_; (with_reducible refine (shuttlelaw07_leads.calls  true _ A15.out).mono ?_); rintro e w17 ⟨rfl, hb⟩; refine ⟨_, rfl, ?_⟩; have n0_ := Aside0.mk (below_step (by repeat (first | (with_reducible first | exact HB.out | apply below_alloc | apply pw_below_drewN | apply below_drew1) | exact HB.out)) hb); clear HB; have HB := n0_; clear n0_; (try clear hb); (try clear hb2); (try clear hk); (try clear hi)))
          go_ret
          exact ⟨by first | rfl | (simp [errW_none, errW_some] <;> rfl) | (simp [*, errW_none, errW_some] <;> rfl), by repeat (first | (with_reducible first | exact HB.out | apply below_alloc | apply pw_below_drewN | apply below_drew1) | exact HB.out)⟩
        · replace c16 := Bool.eq_false_iff.mpr c16
          subst c16
          have H1 : (some false) = some r := by rw [if_neg (show ¬ (false = true) by decide)] at H; exact H
          clear H
          have H := H1
          clear H1
          obtain rfl := Option.some.inj H
          go_wp2_with (first | ((with_reducible refine gate_callee (f := 11) rfl ?_); refine goesL_ (some 33) rfl rfl Tryd.func11 (by kernel_rfl) rfl #[] rfl (by (try simp only [List.map_toArray, List.map_cons, List.map_nil]); first | done | rfl | (simp only [List.length_drop, List.length_take]; rfl)) ?_; (with_reducible refine (shuttlelaw07_leads.calls  false _ A15.out).mono ?_); rintro e w18 ⟨rfl, hb⟩; refine ⟨_, rfl, ?_⟩; have n0_ := Aside0.mk (below_step (by repeat (first | (with_reducible first | exact HB.out | apply below_alloc | apply pw_below_drewN | apply below_drew1) | exact HB.out)) hb); clear HB; have HB := n0_; clear n0_; (try clear hb); (try clear hb2); (try clear hk); (try clear hi)))
          go_ret
          exact ⟨by first | rfl | (simp [errW_none, errW_some] <;> rfl) | (simp [*, errW_none, errW_some] <;> rfl), by repeat (first | (with_reducible first | exact HB.out | apply below_alloc | apply pw_below_drewN | apply below_drew1) | exact HB.out)⟩

/-- THE ONE PURE STATEMENT of shuttlelaw07_TrellisBack: yours. -/
def shuttlelaw07_TrellisBack.Pure : Prop := ∀ (a0 : Int), (Lit.int .i64 a0).wf = true → ∃ k, shuttlelaw07_TrellisBack.f k a0 = some true
theorem shuttlelaw07_TrellisBack.walk (P : shuttlelaw07_TrellisBack.Pure) (a0 : Int) (w : World) (w0 : (Lit.int .i64 a0).wf = true) (hT_ : TP w := by first | assumption | exact TP_of (by assumption : TP _) (by repeat (first | (with_reducible first | apply below_alloc | apply pw_below_drewN | apply below_drew1 | refine below_set ?_ (Aside0.out (by assumption))) | exact Aside0.out (by assumption) | exact Below.refl _ _))) :
    Calls Tryd.prog 4 #[.int .i64 a0] w fun e w' => e = .returned (.bool true) ∧ Below w.heap.size w w' := by
  obtain ⟨k, h⟩ := P a0 w0
  refine (shuttlelaw07_TrellisBack.calls k a0 true w h).mono ?_
  rintro e w' ⟨rfl, hd⟩
  exact ⟨rfl, hd⟩

end Go.Proofs.YtmajbcglpcagoaaDoor.X
