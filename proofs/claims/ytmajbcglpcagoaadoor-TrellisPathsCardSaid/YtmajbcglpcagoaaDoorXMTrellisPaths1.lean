/- Texts of this seat, one behind the other (merge.py): the walks of the functions that the law TrellisPaths uses, and plain words on what they come to. No condition. -/
import Derived.Test.YtmajbcglpcagoaaDoorXMTrellisPaths0
-- YtmajbcglpcagoaaDoorX15
namespace Go.Proofs.YtmajbcglpcagoaaDoor.X
open Go.RowKit Go.Proofs.YtmajbcglpcagoaaDoorW.PrintWords Go.Proofs.YtmajbcglpcagoaaDoorW.PrintLast Go.Proofs.YtmajbcglpcagoaaDoorW.PrintMore
attribute [local go_sem] max2_int min2_int max_two min_two max_three min_three max_four min_four   -- for this text's walks alone
set_option linter.unusedVariables false
set_option linter.unusedSimpArgs false

attribute [local go_sem high] eqA22
/-! ### shuttlelaw07_same: function 12 -/
def shuttlelaw07_same.f (a0_0 : Int) (a0_1 : Int) (a0_2 : Int) (a0_3 : Int) (a0_4 : Int) (a0_5 : Int) (a0_6 : Int) (a1_0 : Int) (a1_1 : Int) (a1_2 : Int) (a1_3 : Int) (a1_4 : Int) (a1_5 : Int) (a1_6 : Int) : Option (Bool) := if a0_0 = a1_0 then (if a0_1 = a1_1 then (if a0_2 = a1_2 then (some (a0_3 == a1_3 && (a0_4 == a1_4 && (a0_5 == a1_5 && (a0_6 == a1_6))))) else (some false)) else (some false)) else (some false)
set_option maxHeartbeats 8000000 in
set_option maxRecDepth 100000 in
theorem shuttlelaw07_same.calls (a0_0 : Int) (a0_1 : Int) (a0_2 : Int) (a0_3 : Int) (a0_4 : Int) (a0_5 : Int) (a0_6 : Int) (a1_0 : Int) (a1_1 : Int) (a1_2 : Int) (a1_3 : Int) (a1_4 : Int) (a1_5 : Int) (a1_6 : Int) (r : Bool) (w : World) (h : shuttlelaw07_same.f a0_0 a0_1 a0_2 a0_3 a0_4 a0_5 a0_6 a1_0 a1_1 a1_2 a1_3 a1_4 a1_5 a1_6 = some r) :
    Calls Tryd.prog 12 #[.agg #[.int .i64 a0_0, .int .i64 a0_1, .int .u8 a0_2, .int .u8 a0_3, .int .u8 a0_4, .int .u8 a0_5, .int .u8 a0_6], .agg #[.int .i64 a1_0, .int .i64 a1_1, .int .u8 a1_2, .int .u8 a1_3, .int .u8 a1_4, .int .u8 a1_5, .int .u8 a1_6]] w fun e w' => e = .returned (.bool r) ∧ Below w.heap.size w w' := by
  have hu24 := Tryd.underlying24
  have hu31 := Tryd.underlying31
  have hu22 := Tryd.underlying22
  have HB := Aside0.mk (Below.refl w.heap.size w)
  have H : (if a0_0 = a1_0 then (if a0_1 = a1_1 then (if a0_2 = a1_2 then (some (a0_3 == a1_3 && (a0_4 == a1_4 && (a0_5 == a1_5 && (a0_6 == a1_6))))) else (some false)) else (some false)) else (some false)) = some r := h
  clear h
  by_cases c3 : a0_0 = a1_0
  · rw [if_pos c3] at H
    have c3b0 : (a0_0 == a1_0) = true := beq_iff_eq.mpr c3
    have c3b1 : (a0_0 != a1_0) = false := bne_eq_false_iff_eq.mpr c3
    clear c3
    by_cases c4 : a0_1 = a1_1
    · rw [if_pos c4] at H
      have c4b0 : (a0_1 == a1_1) = true := beq_iff_eq.mpr c4
      have c4b1 : (a0_1 != a1_1) = false := bne_eq_false_iff_eq.mpr c4
      clear c4
      by_cases c5 : a0_2 = a1_2
      · rw [if_pos c5] at H
        have c5b0 : (a0_2 == a1_2) = true := beq_iff_eq.mpr c5
        have c5b1 : (a0_2 != a1_2) = false := bne_eq_false_iff_eq.mpr c5
        clear c5
        obtain rfl := Option.some.inj H
        go_enter Tryd.func12, Tryd.ntmps12
        go_wp2_with (first | ((with_reducible refine gate_dst (N := 2) rfl ?_); refine box_event ?hg (N := 2) ?hd (cs := #[.int .i64 a0_0, .int .i64 a0_1, .int .u8 a0_2, .int .u8 a0_3, .int .u8 a0_4, .int .u8 a0_5, .int .u8 a0_6]) (t := 24) ?hr ?_; (case hd => rfl); (case hg => rfl); (case hr => first | (go_simp; done) | (go_simp; rfl)); intro gb187 hg w6 hbox hb; have n0_ := Aside0.mk (below_step (by repeat (first | (with_reducible first | exact HB.out | apply below_alloc | apply pw_below_drewN | apply below_drew1) | exact HB.out)) hb); have n1_ := Aside0.mk (hbox); have n2_ := Aside0.mk ((by rw [hg]; exact (below_size (by repeat (first | (with_reducible first | exact HB.out | apply below_alloc | apply pw_below_drewN | apply below_drew1) | exact HB.out))) : w.heap.size ≤ gb187)); have n3_ := Aside0.mk ((by rw [hg]; exact (below_size (by repeat (first | (with_reducible first | exact HB.out | apply below_alloc | apply pw_below_drewN | apply below_drew1) | exact HB.out))) : w.heap.size ≤ gb187)); clear HB; have HB := n0_; have BK187 := n1_; have GW187 := n2_; have GE187 := n3_; clear n0_ n1_ n2_ n3_; clear hb hbox hg) | ((with_reducible refine gate_dst (N := 3) rfl ?_); refine box_event ?hg (N := 3) ?hd (cs := #[.int .i64 a1_0, .int .i64 a1_1, .int .u8 a1_2, .int .u8 a1_3, .int .u8 a1_4, .int .u8 a1_5, .int .u8 a1_6]) (t := 31) ?hr ?_; (case hd => rfl); (case hg => rfl); (case hr => first | (go_simp; done) | (go_simp; rfl)); intro gb188 hg w7 hbox hb; have n0_ := Aside0.mk (blk_below (g := gb187) (o := .cells #[.int .i64 a0_0, .int .i64 a0_1, .int .u8 a0_2, .int .u8 a0_3, .int .u8 a0_4, .int .u8 a0_5, .int .u8 a0_6] 24 (0, 0)) (by (with_reducible repeat (first | refine blk_drewN ?_ _ | refine blk_drew ?_ | refine blk_alloc ?_ _)); exact BK187.out) hb); have n1_ := Aside0.mk (below_step (by repeat (first | (with_reducible first | exact HB.out | apply below_alloc | apply pw_below_drewN | apply below_drew1 | refine below_set ?_ GE187.out) | exact HB.out)) hb); have n2_ := Aside0.mk (hbox); have n3_ := Aside0.mk ((by rw [hg]; exact (below_size (by repeat (first | (with_reducible first | exact HB.out | apply below_alloc | apply pw_below_drewN | apply below_drew1 | refine below_set ?_ GE187.out) | exact HB.out))) : w.heap.size ≤ gb188)); have n4_ := Aside0.mk ((by rw [hg]; exact (below_size (by repeat (first | (with_reducible first | exact HB.out | apply below_alloc | apply pw_below_drewN | apply below_drew1 | refine below_set ?_ GE187.out) | exact HB.out))) : w.heap.size ≤ gb188)); have n5_ := Aside0.mk ((by rw [hg]; exact Nat.ne_of_lt (blk_lt (g := gb187) (o := .cells #[.int .i64 a0_0, .int .i64 a0_1, .int .u8 a0_2, .int .u8 a0_3, .int .u8 a0_4, .int .u8 a0_5, .int .u8 a0_6] 24 (0, 0)) (by (with_reducible repeat (first | refine blk_drewN ?_ _ | refine blk_drew ?_ | refine blk_alloc ?_ _)); exact BK187.out)) : gb187 ≠ gb188)); have n6_ := Aside0.mk ((by rw [hg]; exact Nat.ne_of_gt (blk_lt (g := gb187) (o := .cells #[.int .i64 a0_0, .int .i64 a0_1, .int .u8 a0_2, .int .u8 a0_3, .int .u8 a0_4, .int .u8 a0_5, .int .u8 a0_6] 24 (0, 0)) (by (with_reducible repeat (first | refine blk_drewN ?_ _ | refine blk_drew ?_ | refine blk_alloc ?_ _)); exact BK187.out)) : gb188 ≠ gb187)); clear BK187; clear HB; have BK187 := n0_; have HB := n1_; have BK188 := n2_; have GW188 := n3_; have GE188 := n4_; have NB187_188 := n5_; have NB188_187 := n6_; clear n0_ n1_ n2_ n3_ n4_ n5_ n6_; clear hb hbox hg; have hnb8 := NB187_188.out; have hnc8 := NB188_187.out; have hcz9_0 : w7.cell? ⟨gb187, 0, none⟩ = some (.int .i64 a0_0) := (blk_cell BK187.out 0).trans rfl; have hcz9_1 : w7.cell? ⟨gb187, 1, none⟩ = some (.int .i64 a0_1) := (blk_cell BK187.out 1).trans rfl; have hcz9_2 : w7.cell? ⟨gb187, 2, none⟩ = some (.int .u8 a0_2) := (blk_cell BK187.out 2).trans rfl; have hcz9_3 : w7.cell? ⟨gb187, 3, none⟩ = some (.int .u8 a0_3) := (blk_cell BK187.out 3).trans rfl; have hcz9_4 : w7.cell? ⟨gb187, 4, none⟩ = some (.int .u8 a0_4) := (blk_cell BK187.out 4).trans rfl; have hcz9_5 : w7.cell? ⟨gb187, 5, none⟩ = some (.int .u8 a0_5) := (blk_cell BK187.out 5).trans rfl; have hcz9_6 : w7.cell? ⟨gb187, 6, none⟩ = some (.int .u8 a0_6) := (blk_cell BK187.out 6).trans rfl; have hfz9_0 := blk_frozen BK187.out 0; have hfz9_1 := blk_frozen BK187.out 1; have hfz9_2 := blk_frozen BK187.out 2; have hfz9_3 := blk_frozen BK187.out 3; have hfz9_4 := blk_frozen BK187.out 4; have hfz9_5 := blk_frozen BK187.out 5; have hfz9_6 := blk_frozen BK187.out 6; have hcz10_0 : w7.cell? ⟨gb188, 0, none⟩ = some (.int .i64 a1_0) := (blk_cell BK188.out 0).trans rfl; have hcz10_1 : w7.cell? ⟨gb188, 1, none⟩ = some (.int .i64 a1_1) := (blk_cell BK188.out 1).trans rfl; have hcz10_2 : w7.cell? ⟨gb188, 2, none⟩ = some (.int .u8 a1_2) := (blk_cell BK188.out 2).trans rfl; have hcz10_3 : w7.cell? ⟨gb188, 3, none⟩ = some (.int .u8 a1_3) := (blk_cell BK188.out 3).trans rfl; have hcz10_4 : w7.cell? ⟨gb188, 4, none⟩ = some (.int .u8 a1_4) := (blk_cell BK188.out 4).trans rfl; have hcz10_5 : w7.cell? ⟨gb188, 5, none⟩ = some (.int .u8 a1_5) := (blk_cell BK188.out 5).trans rfl; have hcz10_6 : w7.cell? ⟨gb188, 6, none⟩ = some (.int .u8 a1_6) := (blk_cell BK188.out 6).trans rfl; have hfz10_0 := blk_frozen BK188.out 0; have hfz10_1 := blk_frozen BK188.out 1; have hfz10_2 := blk_frozen BK188.out 2; have hfz10_3 := blk_frozen BK188.out 3; have hfz10_4 := blk_frozen BK188.out 4; have hfz10_5 := blk_frozen BK188.out 5; have hfz10_6 := blk_frozen BK188.out 6))
        go_ret
        exact ⟨by first | rfl | (simp [errW_none, errW_some] <;> rfl) | (simp [*, errW_none, errW_some] <;> rfl), by repeat (first | (with_reducible first | exact HB.out | apply below_alloc | apply pw_below_drewN | apply below_drew1 | refine below_set ?_ GE187.out | refine below_set ?_ GE188.out) | exact HB.out)⟩
      · rw [if_neg c5] at H
        have c5b0 : (a0_2 == a1_2) = false := beq_eq_false_iff_ne.mpr c5
        have c5b1 : (a0_2 != a1_2) = true := bne_iff_ne.mpr c5
        obtain rfl := Option.some.inj H
        go_enter Tryd.func12, Tryd.ntmps12
        go_wp2_with (first | ((with_reducible refine gate_dst (N := 2) rfl ?_); refine box_event ?hg (N := 2) ?hd (cs := #[.int .i64 a0_0, .int .i64 a0_1, .int .u8 a0_2, .int .u8 a0_3, .int .u8 a0_4, .int .u8 a0_5, .int .u8 a0_6]) (t := 24) ?hr ?_; (case hd => rfl); (case hg => rfl); (case hr => first | (go_simp; done) | (go_simp; rfl)); intro gb187 hg w11 hbox hb; have n0_ := Aside0.mk (below_step (by repeat (first | (with_reducible first | exact HB.out | apply below_alloc | apply pw_below_drewN | apply below_drew1) | exact HB.out)) hb); have n1_ := Aside0.mk (hbox); have n2_ := Aside0.mk ((by rw [hg]; exact (below_size (by repeat (first | (with_reducible first | exact HB.out | apply below_alloc | apply pw_below_drewN | apply below_drew1) | exact HB.out))) : w.heap.size ≤ gb187)); have n3_ := Aside0.mk ((by rw [hg]; exact (below_size (by repeat (first | (with_reducible first | exact HB.out | apply below_alloc | apply pw_below_drewN | apply below_drew1) | exact HB.out))) : w.heap.size ≤ gb187)); clear HB; have HB := n0_; have BK187 := n1_; have GW187 := n2_; have GE187 := n3_; clear n0_ n1_ n2_ n3_; clear hb hbox hg) | ((with_reducible refine gate_dst (N := 3) rfl ?_); refine box_event ?hg (N := 3) ?hd (cs := #[.int .i64 a1_0, .int .i64 a1_1, .int .u8 a1_2, .int .u8 a1_3, .int .u8 a1_4, .int .u8 a1_5, .int .u8 a1_6]) (t := 31) ?hr ?_; (case hd => rfl); (case hg => rfl); (case hr => first | (go_simp; done) | (go_simp; rfl)); intro gb188 hg w12 hbox hb; have n0_ := Aside0.mk (blk_below (g := gb187) (o := .cells #[.int .i64 a0_0, .int .i64 a0_1, .int .u8 a0_2, .int .u8 a0_3, .int .u8 a0_4, .int .u8 a0_5, .int .u8 a0_6] 24 (0, 0)) (by (with_reducible repeat (first | refine blk_drewN ?_ _ | refine blk_drew ?_ | refine blk_alloc ?_ _)); exact BK187.out) hb); have n1_ := Aside0.mk (below_step (by repeat (first | (with_reducible first | exact HB.out | apply below_alloc | apply pw_below_drewN | apply below_drew1 | refine below_set ?_ GE187.out) | exact HB.out)) hb); have n2_ := Aside0.mk (hbox); have n3_ := Aside0.mk ((by rw [hg]; exact (below_size (by repeat (first | (with_reducible first | exact HB.out | apply below_alloc | apply pw_below_drewN | apply below_drew1 | refine below_set ?_ GE187.out) | exact HB.out))) : w.heap.size ≤ gb188)); have n4_ := Aside0.mk ((by rw [hg]; exact (below_size (by repeat (first | (with_reducible first | exact HB.out | apply below_alloc | apply pw_below_drewN | apply below_drew1 | refine below_set ?_ GE187.out) | exact HB.out))) : w.heap.size ≤ gb188)); have n5_ := Aside0.mk ((by rw [hg]; exact Nat.ne_of_lt (blk_lt (g := gb187) (o := .cells #[.int .i64 a0_0, .int .i64 a0_1, .int .u8 a0_2, .int .u8 a0_3, .int .u8 a0_4, .int .u8 a0_5, .int .u8 a0_6] 24 (0, 0)) (by (with_reducible repeat (first | refine blk_drewN ?_ _ | refine blk_drew ?_ | refine blk_alloc ?_ _)); exact BK187.out)) : gb187 ≠ gb188)); have n6_ := Aside0.mk ((by rw [hg]; exact Nat.ne_of_gt (blk_lt (g := gb187) (o := .cells #[.int .i64 a0_0, .int .i64 a0_1, .int .u8 a0_2, .int .u8 a0_3, .int .u8 a0_4, .int .u8 a0_5, .int .u8 a0_6] 24 (0, 0)) (by (with_reducible repeat (first | refine blk_drewN ?_ _ | refine blk_drew ?_ | refine blk_alloc ?_ _)); exact BK187.out)) : gb188 ≠ gb187)); clear BK187; clear HB; have BK187 := n0_; have HB := n1_; have BK188 := n2_; have GW188 := n3_; have GE188 := n4_; have NB187_188 := n5_; have NB188_187 := n6_; clear n0_ n1_ n2_ n3_ n4_ n5_ n6_; clear hb hbox hg; have hnb13 := NB187_188.out; have hnc13 := NB188_187.out; have hcz14_0 : w12.cell? ⟨gb187, 0, none⟩ = some (.int .i64 a0_0) := (blk_cell BK187.out 0).trans rfl; have hcz14_1 : w12.cell? ⟨gb187, 1, none⟩ = some (.int .i64 a0_1) := (blk_cell BK187.out 1).trans rfl; have hcz14_2 : w12.cell? ⟨gb187, 2, none⟩ = some (.int .u8 a0_2) := (blk_cell BK187.out 2).trans rfl; have hcz14_3 : w12.cell? ⟨gb187, 3, none⟩ = some (.int .u8 a0_3) := (blk_cell BK187.out 3).trans rfl; have hcz14_4 : w12.cell? ⟨gb187, 4, none⟩ = some (.int .u8 a0_4) := (blk_cell BK187.out 4).trans rfl; have hcz14_5 : w12.cell? ⟨gb187, 5, none⟩ = some (.int .u8 a0_5) := (blk_cell BK187.out 5).trans rfl; have hcz14_6 : w12.cell? ⟨gb187, 6, none⟩ = some (.int .u8 a0_6) := (blk_cell BK187.out 6).trans rfl; have hfz14_0 := blk_frozen BK187.out 0; have hfz14_1 := blk_frozen BK187.out 1; have hfz14_2 := blk_frozen BK187.out 2; have hfz14_3 := blk_frozen BK187.out 3; have hfz14_4 := blk_frozen BK187.out 4; have hfz14_5 := blk_frozen BK187.out 5; have hfz14_6 := blk_frozen BK187.out 6; have hcz15_0 : w12.cell? ⟨gb188, 0, none⟩ = some (.int .i64 a1_0) := (blk_cell BK188.out 0).trans rfl; have hcz15_1 : w12.cell? ⟨gb188, 1, none⟩ = some (.int .i64 a1_1) := (blk_cell BK188.out 1).trans rfl; have hcz15_2 : w12.cell? ⟨gb188, 2, none⟩ = some (.int .u8 a1_2) := (blk_cell BK188.out 2).trans rfl; have hcz15_3 : w12.cell? ⟨gb188, 3, none⟩ = some (.int .u8 a1_3) := (blk_cell BK188.out 3).trans rfl; have hcz15_4 : w12.cell? ⟨gb188, 4, none⟩ = some (.int .u8 a1_4) := (blk_cell BK188.out 4).trans rfl; have hcz15_5 : w12.cell? ⟨gb188, 5, none⟩ = some (.int .u8 a1_5) := (blk_cell BK188.out 5).trans rfl; have hcz15_6 : w12.cell? ⟨gb188, 6, none⟩ = some (.int .u8 a1_6) := (blk_cell BK188.out 6).trans rfl; have hfz15_0 := blk_frozen BK188.out 0; have hfz15_1 := blk_frozen BK188.out 1; have hfz15_2 := blk_frozen BK188.out 2; have hfz15_3 := blk_frozen BK188.out 3; have hfz15_4 := blk_frozen BK188.out 4; have hfz15_5 := blk_frozen BK188.out 5; have hfz15_6 := blk_frozen BK188.out 6))
        go_ret
        exact ⟨by first | rfl | (simp [errW_none, errW_some] <;> rfl) | (simp [*, errW_none, errW_some] <;> rfl), by repeat (first | (with_reducible first | exact HB.out | apply below_alloc | apply pw_below_drewN | apply below_drew1 | refine below_set ?_ GE187.out | refine below_set ?_ GE188.out) | exact HB.out)⟩
    · rw [if_neg c4] at H
      have c4b0 : (a0_1 == a1_1) = false := beq_eq_false_iff_ne.mpr c4
      have c4b1 : (a0_1 != a1_1) = true := bne_iff_ne.mpr c4
      obtain rfl := Option.some.inj H
      go_enter Tryd.func12, Tryd.ntmps12
      go_wp2_with (first | ((with_reducible refine gate_dst (N := 2) rfl ?_); refine box_event ?hg (N := 2) ?hd (cs := #[.int .i64 a0_0, .int .i64 a0_1, .int .u8 a0_2, .int .u8 a0_3, .int .u8 a0_4, .int .u8 a0_5, .int .u8 a0_6]) (t := 24) ?hr ?_; (case hd => rfl); (case hg => rfl); (case hr => first | (go_simp; done) | (go_simp; rfl)); intro gb187 hg w16 hbox hb; have n0_ := Aside0.mk (below_step (by repeat (first | (with_reducible first | exact HB.out | apply below_alloc | apply pw_below_drewN | apply below_drew1) | exact HB.out)) hb); have n1_ := Aside0.mk (hbox); have n2_ := Aside0.mk ((by rw [hg]; exact (below_size (by repeat (first | (with_reducible first | exact HB.out | apply below_alloc | apply pw_below_drewN | apply below_drew1) | exact HB.out))) : w.heap.size ≤ gb187)); have n3_ := Aside0.mk ((by rw [hg]; exact (below_size (by repeat (first | (with_reducible first | exact HB.out | apply below_alloc | apply pw_below_drewN | apply below_drew1) | exact HB.out))) : w.heap.size ≤ gb187)); clear HB; have HB := n0_; have BK187 := n1_; have GW187 := n2_; have GE187 := n3_; clear n0_ n1_ n2_ n3_; clear hb hbox hg) | ((with_reducible refine gate_dst (N := 3) rfl ?_); refine box_event ?hg (N := 3) ?hd (cs := #[.int .i64 a1_0, .int .i64 a1_1, .int .u8 a1_2, .int .u8 a1_3, .int .u8 a1_4, .int .u8 a1_5, .int .u8 a1_6]) (t := 31) ?hr ?_; (case hd => rfl); (case hg => rfl); (case hr => first | (go_simp; done) | (go_simp; rfl)); intro gb188 hg w17 hbox hb; have n0_ := Aside0.mk (blk_below (g := gb187) (o := .cells #[.int .i64 a0_0, .int .i64 a0_1, .int .u8 a0_2, .int .u8 a0_3, .int .u8 a0_4, .int .u8 a0_5, .int .u8 a0_6] 24 (0, 0)) (by (with_reducible repeat (first | refine blk_drewN ?_ _ | refine blk_drew ?_ | refine blk_alloc ?_ _)); exact BK187.out) hb); have n1_ := Aside0.mk (below_step (by repeat (first | (with_reducible first | exact HB.out | apply below_alloc | apply pw_below_drewN | apply below_drew1 | refine below_set ?_ GE187.out) | exact HB.out)) hb); have n2_ := Aside0.mk (hbox); have n3_ := Aside0.mk ((by rw [hg]; exact (below_size (by repeat (first | (with_reducible first | exact HB.out | apply below_alloc | apply pw_below_drewN | apply below_drew1 | refine below_set ?_ GE187.out) | exact HB.out))) : w.heap.size ≤ gb188)); have n4_ := Aside0.mk ((by rw [hg]; exact (below_size (by repeat (first | (with_reducible first | exact HB.out | apply below_alloc | apply pw_below_drewN | apply below_drew1 | refine below_set ?_ GE187.out) | exact HB.out))) : w.heap.size ≤ gb188)); have n5_ := Aside0.mk ((by rw [hg]; exact Nat.ne_of_lt (blk_lt (g := gb187) (o := .cells #[.int .i64 a0_0, .int .i64 a0_1, .int .u8 a0_2, .int .u8 a0_3, .int .u8 a0_4, .int .u8 a0_5, .int .u8 a0_6] 24 (0, 0)) (by (with_reducible repeat (first | refine blk_drewN ?_ _ | refine blk_drew ?_ | refine blk_alloc ?_ _)); exact BK187.out)) : gb187 ≠ gb188)); have n6_ := Aside0.mk ((by rw [hg]; exact Nat.ne_of_gt (blk_lt (g := gb187) (o := .cells #[.int .i64 a0_0, .int .i64 a0_1, .int .u8 a0_2, .int .u8 a0_3, .int .u8 a0_4, .int .u8 a0_5, .int .u8 a0_6] 24 (0, 0)) (by (with_reducible repeat (first | refine blk_drewN ?_ _ | refine blk_drew ?_ | refine blk_alloc ?_ _)); exact BK187.out)) : gb188 ≠ gb187)); clear BK187; clear HB; have BK187 := n0_; have HB := n1_; have BK188 := n2_; have GW188 := n3_; have GE188 := n4_; have NB187_188 := n5_; have NB188_187 := n6_; clear n0_ n1_ n2_ n3_ n4_ n5_ n6_; clear hb hbox hg; have hnb18 := NB187_188.out; have hnc18 := NB188_187.out; have hcz19_0 : w17.cell? ⟨gb187, 0, none⟩ = some (.int .i64 a0_0) := (blk_cell BK187.out 0).trans rfl; have hcz19_1 : w17.cell? ⟨gb187, 1, none⟩ = some (.int .i64 a0_1) := (blk_cell BK187.out 1).trans rfl; have hcz19_2 : w17.cell? ⟨gb187, 2, none⟩ = some (.int .u8 a0_2) := (blk_cell BK187.out 2).trans rfl; have hcz19_3 : w17.cell? ⟨gb187, 3, none⟩ = some (.int .u8 a0_3) := (blk_cell BK187.out 3).trans rfl; have hcz19_4 : w17.cell? ⟨gb187, 4, none⟩ = some (.int .u8 a0_4) := (blk_cell BK187.out 4).trans rfl; have hcz19_5 : w17.cell? ⟨gb187, 5, none⟩ = some (.int .u8 a0_5) := (blk_cell BK187.out 5).trans rfl; have hcz19_6 : w17.cell? ⟨gb187, 6, none⟩ = some (.int .u8 a0_6) := (blk_cell BK187.out 6).trans rfl; have hfz19_0 := blk_frozen BK187.out 0; have hfz19_1 := blk_frozen BK187.out 1; have hfz19_2 := blk_frozen BK187.out 2; have hfz19_3 := blk_frozen BK187.out 3; have hfz19_4 := blk_frozen BK187.out 4; have hfz19_5 := blk_frozen BK187.out 5; have hfz19_6 := blk_frozen BK187.out 6; have hcz20_0 : w17.cell? ⟨gb188, 0, none⟩ = some (.int .i64 a1_0) := (blk_cell BK188.out 0).trans rfl; have hcz20_1 : w17.cell? ⟨gb188, 1, none⟩ = some (.int .i64 a1_1) := (blk_cell BK188.out 1).trans rfl; have hcz20_2 : w17.cell? ⟨gb188, 2, none⟩ = some (.int .u8 a1_2) := (blk_cell BK188.out 2).trans rfl; have hcz20_3 : w17.cell? ⟨gb188, 3, none⟩ = some (.int .u8 a1_3) := (blk_cell BK188.out 3).trans rfl; have hcz20_4 : w17.cell? ⟨gb188, 4, none⟩ = some (.int .u8 a1_4) := (blk_cell BK188.out 4).trans rfl; have hcz20_5 : w17.cell? ⟨gb188, 5, none⟩ = some (.int .u8 a1_5) := (blk_cell BK188.out 5).trans rfl; have hcz20_6 : w17.cell? ⟨gb188, 6, none⟩ = some (.int .u8 a1_6) := (blk_cell BK188.out 6).trans rfl; have hfz20_0 := blk_frozen BK188.out 0; have hfz20_1 := blk_frozen BK188.out 1; have hfz20_2 := blk_frozen BK188.out 2; have hfz20_3 := blk_frozen BK188.out 3; have hfz20_4 := blk_frozen BK188.out 4; have hfz20_5 := blk_frozen BK188.out 5; have hfz20_6 := blk_frozen BK188.out 6))
      go_ret
      exact ⟨by first | rfl | (simp [errW_none, errW_some] <;> rfl) | (simp [*, errW_none, errW_some] <;> rfl), by repeat (first | (with_reducible first | exact HB.out | apply below_alloc | apply pw_below_drewN | apply below_drew1 | refine below_set ?_ GE187.out | refine below_set ?_ GE188.out) | exact HB.out)⟩
  · rw [if_neg c3] at H
    have c3b0 : (a0_0 == a1_0) = false := beq_eq_false_iff_ne.mpr c3
    have c3b1 : (a0_0 != a1_0) = true := bne_iff_ne.mpr c3
    obtain rfl := Option.some.inj H
    go_enter Tryd.func12, Tryd.ntmps12
    go_wp2_with (first | ((with_reducible refine gate_dst (N := 2) rfl ?_); refine box_event ?hg (N := 2) ?hd (cs := #[.int .i64 a0_0, .int .i64 a0_1, .int .u8 a0_2, .int .u8 a0_3, .int .u8 a0_4, .int .u8 a0_5, .int .u8 a0_6]) (t := 24) ?hr ?_; (case hd => rfl); (case hg => rfl); (case hr => first | (go_simp; done) | (go_simp; rfl)); intro gb187 hg w21 hbox hb; have n0_ := Aside0.mk (below_step (by repeat (first | (with_reducible first | exact HB.out | apply below_alloc | apply pw_below_drewN | apply below_drew1) | exact HB.out)) hb); have n1_ := Aside0.mk (hbox); have n2_ := Aside0.mk ((by rw [hg]; exact (below_size (by repeat (first | (with_reducible first | exact HB.out | apply below_alloc | apply pw_below_drewN | apply below_drew1) | exact HB.out))) : w.heap.size ≤ gb187)); have n3_ := Aside0.mk ((by rw [hg]; exact (below_size (by repeat (first | (with_reducible first | exact HB.out | apply below_alloc | apply pw_below_drewN | apply below_drew1) | exact HB.out))) : w.heap.size ≤ gb187)); clear HB; have HB := n0_; have BK187 := n1_; have GW187 := n2_; have GE187 := n3_; clear n0_ n1_ n2_ n3_; clear hb hbox hg) | ((with_reducible refine gate_dst (N := 3) rfl ?_); refine box_event ?hg (N := 3) ?hd (cs := #[.int .i64 a1_0, .int .i64 a1_1, .int .u8 a1_2, .int .u8 a1_3, .int .u8 a1_4, .int .u8 a1_5, .int .u8 a1_6]) (t := 31) ?hr ?_; (case hd => rfl); (case hg => rfl); (case hr => first | (go_simp; done) | (go_simp; rfl)); intro gb188 hg w22 hbox hb; have n0_ := Aside0.mk (blk_below (g := gb187) (o := .cells #[.int .i64 a0_0, .int .i64 a0_1, .int .u8 a0_2, .int .u8 a0_3, .int .u8 a0_4, .int .u8 a0_5, .int .u8 a0_6] 24 (0, 0)) (by (with_reducible repeat (first | refine blk_drewN ?_ _ | refine blk_drew ?_ | refine blk_alloc ?_ _)); exact BK187.out) hb); have n1_ := Aside0.mk (below_step (by repeat (first | (with_reducible first | exact HB.out | apply below_alloc | apply pw_below_drewN | apply below_drew1 | refine below_set ?_ GE187.out) | exact HB.out)) hb); have n2_ := Aside0.mk (hbox); have n3_ := Aside0.mk ((by rw [hg]; exact (below_size (by repeat (first | (with_reducible first | exact HB.out | apply below_alloc | apply pw_below_drewN | apply below_drew1 | refine below_set ?_ GE187.out) | exact HB.out))) : w.heap.size ≤ gb188)); have n4_ := Aside0.mk ((by rw [hg]; exact (below_size (by repeat (first | (with_reducible first | exact HB.out | apply below_alloc | apply pw_below_drewN | apply below_drew1 | refine below_set ?_ GE187.out) | exact HB.out))) : w.heap.size ≤ gb188)); have n5_ := Aside0.mk ((by rw [hg]; exact Nat.ne_of_lt (blk_lt (g := gb187) (o := .cells #[.int .i64 a0_0, .int .i64 a0_1, .int .u8 a0_2, .int .u8 a0_3, .int .u8 a0_4, .int .u8 a0_5, .int .u8 a0_6] 24 (0, 0)) (by (with_reducible repeat (first | refine blk_drewN ?_ _ | refine blk_drew ?_ | refine blk_alloc ?_ _)); exact BK187.out)) : gb187 ≠ gb188)); have n6_ := Aside0.mk ((by rw [hg]; exact Nat.ne_of_gt (blk_lt (g := gb187) (o := .cells #[.int .i64 a0_0, .int .i64 a0_1, .int .u8 a0_2, .int .u8 a0_3, .int .u8 a0_4, .int .u8 a0_5, .int .u8 a0_6] 24 (0, 0)) (by (with_reducible repeat (first | refine blk_drewN ?_ _ | refine blk_drew ?_ | refine blk_alloc ?_ _)); exact BK187.out)) : gb188 ≠ gb187)); clear BK187; clear HB; have BK187 := n0_; have HB := n1_; have BK188 := n2_; have GW188 := n3_; have GE188 := n4_; have NB187_188 := n5_; have NB188_187 := n6_; clear n0_ n1_ n2_ n3_ n4_ n5_ n6_; clear hb hbox hg; have hnb23 := NB187_188.out; have hnc23 := NB188_187.out; have hcz24_0 : w22.cell? ⟨gb187, 0, none⟩ = some (.int .i64 a0_0) := (blk_cell BK187.out 0).trans rfl; have hcz24_1 : w22.cell? ⟨gb187, 1, none⟩ = some (.int .i64 a0_1) := (blk_cell BK187.out 1).trans rfl; have hcz24_2 : w22.cell? ⟨gb187, 2, none⟩ = some (.int .u8 a0_2) := (blk_cell BK187.out 2).trans rfl; have hcz24_3 : w22.cell? ⟨gb187, 3, none⟩ = some (.int .u8 a0_3) := (blk_cell BK187.out 3).trans rfl; have hcz24_4 : w22.cell? ⟨gb187, 4, none⟩ = some (.int .u8 a0_4) := (blk_cell BK187.out 4).trans rfl; have hcz24_5 : w22.cell? ⟨gb187, 5, none⟩ = some (.int .u8 a0_5) := (blk_cell BK187.out 5).trans rfl; have hcz24_6 : w22.cell? ⟨gb187, 6, none⟩ = some (.int .u8 a0_6) := (blk_cell BK187.out 6).trans rfl; have hfz24_0 := blk_frozen BK187.out 0; have hfz24_1 := blk_frozen BK187.out 1; have hfz24_2 := blk_frozen BK187.out 2; have hfz24_3 := blk_frozen BK187.out 3; have hfz24_4 := blk_frozen BK187.out 4; have hfz24_5 := blk_frozen BK187.out 5; have hfz24_6 := blk_frozen BK187.out 6; have hcz25_0 : w22.cell? ⟨gb188, 0, none⟩ = some (.int .i64 a1_0) := (blk_cell BK188.out 0).trans rfl; have hcz25_1 : w22.cell? ⟨gb188, 1, none⟩ = some (.int .i64 a1_1) := (blk_cell BK188.out 1).trans rfl; have hcz25_2 : w22.cell? ⟨gb188, 2, none⟩ = some (.int .u8 a1_2) := (blk_cell BK188.out 2).trans rfl; have hcz25_3 : w22.cell? ⟨gb188, 3, none⟩ = some (.int .u8 a1_3) := (blk_cell BK188.out 3).trans rfl; have hcz25_4 : w22.cell? ⟨gb188, 4, none⟩ = some (.int .u8 a1_4) := (blk_cell BK188.out 4).trans rfl; have hcz25_5 : w22.cell? ⟨gb188, 5, none⟩ = some (.int .u8 a1_5) := (blk_cell BK188.out 5).trans rfl; have hcz25_6 : w22.cell? ⟨gb188, 6, none⟩ = some (.int .u8 a1_6) := (blk_cell BK188.out 6).trans rfl; have hfz25_0 := blk_frozen BK188.out 0; have hfz25_1 := blk_frozen BK188.out 1; have hfz25_2 := blk_frozen BK188.out 2; have hfz25_3 := blk_frozen BK188.out 3; have hfz25_4 := blk_frozen BK188.out 4; have hfz25_5 := blk_frozen BK188.out 5; have hfz25_6 := blk_frozen BK188.out 6))
    go_ret
    exact ⟨by first | rfl | (simp [errW_none, errW_some] <;> rfl) | (simp [*, errW_none, errW_some] <;> rfl), by repeat (first | (with_reducible first | exact HB.out | apply below_alloc | apply pw_below_drewN | apply below_drew1 | refine below_set ?_ GE187.out | refine below_set ?_ GE188.out) | exact HB.out)⟩

end Go.Proofs.YtmajbcglpcagoaaDoor.X

-- YtmajbcglpcagoaaDoorX22
namespace Go.Proofs.YtmajbcglpcagoaaDoor.X
open Go.RowKit Go.Proofs.YtmajbcglpcagoaaDoorW.PrintWords Go.Proofs.YtmajbcglpcagoaaDoorW.PrintLast Go.Proofs.YtmajbcglpcagoaaDoorW.PrintMore
attribute [local go_sem] max2_int min2_int max_two min_two max_three min_three max_four min_four   -- for this text's walks alone
set_option linter.unusedVariables false
set_option linter.unusedSimpArgs false

/-! ### conv_Steps: function 29 -/
def conv_Steps.f (a0 : Int) : Option (Int) := if a0 < 0 then (some 0) else (some (wrap64 (a0 + 6)))
set_option maxHeartbeats 8000000 in
set_option maxRecDepth 100000 in
theorem conv_Steps.calls (a0 : Int) (r : Int) (w : World) (h : conv_Steps.f a0 = some r) :
    Calls Tryd.prog 29 #[.int .i64 a0] w fun e w' => e = .returned (.int .i64 r) ∧ Drawn0 w w' := by
  have H : (if a0 < 0 then (some 0) else (some (wrap64 (a0 + 6)))) = some r := h
  clear h
  by_cases c2 : a0 < 0
  · rw [if_pos c2] at H
    have c2b0 : decide (a0 < 0) = true := decide_eq_true c2
    clear c2
    obtain rfl := Option.some.inj H
    go_enter Tryd.func29, Tryd.ntmps29
    go_wp2
    go_ret
    exact ⟨by first | rfl | (simp; done) | (simp [*]; done), by repeat (first | exact Drawn0.refl _ | apply Drawn0.step)⟩
  · rw [if_neg c2] at H
    have c2b0 : decide (a0 < 0) = false := decide_eq_false c2
    clear c2
    obtain rfl := Option.some.inj H
    go_enter Tryd.func29, Tryd.ntmps29
    go_wp2
    go_ret
    exact ⟨by first | rfl | (simp; done) | (simp [*]; done), by repeat (first | exact Drawn0.refl _ | apply Drawn0.step)⟩

end Go.Proofs.YtmajbcglpcagoaaDoor.X

-- YtmajbcglpcagoaaDoorX23
namespace Go.Proofs.YtmajbcglpcagoaaDoor.X
open Go.RowKit Go.Proofs.YtmajbcglpcagoaaDoorW.PrintWords Go.Proofs.YtmajbcglpcagoaaDoorW.PrintLast Go.Proofs.YtmajbcglpcagoaaDoorW.PrintMore
attribute [local go_sem] max2_int min2_int max_two min_two max_three min_three max_four min_four   -- for this text's walks alone
set_option linter.unusedVariables false
set_option linter.unusedSimpArgs false

/-! ### bits_Right_1: function 43 -/
def bits_Right_1.f (a0 : Int) : Option (Bool) := some (decide (a0 > 1))
set_option maxHeartbeats 8000000 in
set_option maxRecDepth 100000 in
theorem bits_Right_1.calls (a0 : Int) (r : Bool) (w : World) (h : bits_Right_1.f a0 = some r) :
    Calls Tryd.prog 43 #[.int .u8 a0] w fun e w' => e = .returned (.bool r) ∧ Drawn0 w w' := by
  have H : (some (decide (a0 > 1))) = some r := h
  clear h
  obtain rfl := Option.some.inj H
  go_enter Tryd.func43, Tryd.ntmps43
  go_wp2
  go_ret
  exact ⟨by first | rfl | (simp; done) | (simp [*]; done), by repeat (first | exact Drawn0.refl _ | apply Drawn0.step)⟩

end Go.Proofs.YtmajbcglpcagoaaDoor.X

-- YtmajbcglpcagoaaDoorX24
namespace Go.Proofs.YtmajbcglpcagoaaDoor.X
open Go.RowKit Go.Proofs.YtmajbcglpcagoaaDoorW.PrintWords Go.Proofs.YtmajbcglpcagoaaDoorW.PrintLast Go.Proofs.YtmajbcglpcagoaaDoorW.PrintMore
attribute [local go_sem] max2_int min2_int max_two min_two max_three min_three max_four min_four   -- for this text's walks alone
set_option linter.unusedVariables false
set_option linter.unusedSimpArgs false

/-! ### slices_IndexFunc_byte_byte: function 48 -/
def slices_IndexFunc_byte_byte.l0 : Nat → List Int → Int → Int → Option (Int)
  | 0, _, _, _ => none
  | k + 1, x0, x7, x8 => if x8 < x7 then (if 0 ≤ x8 then (if x8 < (x0.length : Int) then ((bits_Right_1.f (rd x0 x8)).bind fun t316 => (if t316 = true then (some x8) else (slices_IndexFunc_byte_byte.l0 k x0 x7 (wrap64 (x8 + 1))))) else (none)) else (none)) else (some (-1))
def slices_IndexFunc_byte_byte.f (k : Nat) (l0 : List Int)  : Option (Int) := slices_IndexFunc_byte_byte.l0 k l0 (l0.length : Int) 0
theorem slices_IndexFunc_byte_byte.mono_l : ∀ k, (∀ y0 y1 y2, LeO (slices_IndexFunc_byte_byte.l0 k y0 y1 y2) (slices_IndexFunc_byte_byte.l0 (k + 1) y0 y1 y2))
  | 0 => fun _ _ _ r h => by simp [slices_IndexFunc_byte_byte.l0] at h
  | k + 1 => by
    have ih0 := slices_IndexFunc_byte_byte.mono_l k
    · intro y0 y1 y2
      unfold slices_IndexFunc_byte_byte.l0
      repeat' first
      | (with_reducible exact ih0 _ _ _)
      | (with_reducible exact LeO.refl _)
      | (with_reducible exact LeO.none _)
      | (with_reducible refine LeO.ite ?_ ?_)
      | (with_reducible refine LeO.bind ?_ (fun _ => ?_))
      | exact ih0 _ _ _
      | exact LeO.none _
      | refine LeO.ite ?_ ?_
      | refine LeO.bind ?_ (fun _ => ?_)
theorem slices_IndexFunc_byte_byte.mono : ∀ a0 k, LeO (slices_IndexFunc_byte_byte.f k a0) (slices_IndexFunc_byte_byte.f (k + 1) a0) := by
  intro a0 k
  have ih0 := slices_IndexFunc_byte_byte.mono_l k
  unfold slices_IndexFunc_byte_byte.f
  repeat' first
      | (with_reducible exact ih0 _ _ _)
      | (with_reducible exact LeO.refl _)
      | (with_reducible exact LeO.none _)
      | (with_reducible refine LeO.ite ?_ ?_)
      | (with_reducible refine LeO.bind ?_ (fun _ => ?_))
      | exact ih0 _ _ _
      | exact LeO.none _
      | refine LeO.ite ?_ ?_
      | refine LeO.bind ?_ (fun _ => ?_)
set_option maxHeartbeats 8000000 in
set_option maxRecDepth 100000 in
theorem slices_IndexFunc_byte_byte.calls (k : Nat) (A0 : Option Addr) (c0 : Nat) (l0 : List Int)  (r : Int) (w : World) (hr0 : Kd.C (Kd.int .u8) w A0 l0.length l0) (hc0 : l0.length ≤ c0) (h : slices_IndexFunc_byte_byte.f k l0 = some r) :
    Calls Tryd.prog 48 #[.slice A0 l0.length c0, .func (.func 43) #[] #[]] w fun e w' => e = .returned (.int .i64 r) ∧ Drawn0 w w' := by
  have HR0 := Aside0.mk hr0
  have HC0 := Aside0.mk hc0
  clear hr0 hc0
  have H : (slices_IndexFunc_byte_byte.l0 k l0 (l0.length : Int) 0) = some r := h
  clear h
  have H' := Aside0.mk H
  clear H
  go_enter Tryd.func48, Tryd.ntmps48
  go_wp2
  go_loopg [8] k (fun kq v8 w' => ∃ (x8_1 : Int), v8 = .int .i64 x8_1 ∧ Aside0 (slices_IndexFunc_byte_byte.l0 kq l0 (l0.length : Int) x8_1 = some r) ∧ Aside0 (kq ≤ k) ∧ Drawn0 w w')
  case atStart => exact ⟨(0), (by first | rfl | (simp; done) | (simp [*]; done)), H', ⟨Nat.le_refl _⟩, by repeat (first | exact Drawn0.refl _ | apply Drawn0.step)⟩
  case round =>
    clear H'
    try clear p2
    obtain ⟨x8_1, rfl, HA, HK1, ⟨m1, rfl⟩⟩ := hrel
    cases gk with
    | zero => exact absurd HA.out (by simp [slices_IndexFunc_byte_byte.l0])
    | succ k1 =>
      have H := HA.out
      clear HA
      simp only [slices_IndexFunc_byte_byte.l0] at H
      by_cases c3 : x8_1 < (l0.length : Int)
      · rw [if_pos c3] at H
        have c3b0 : decide (x8_1 < (l0.length : Int)) = true := decide_eq_true c3
        clear c3
        by_cases c4 : 0 ≤ x8_1
        · rw [if_pos c4] at H
          have c4b0 : decide (0 ≤ x8_1) = true := decide_eq_true c4
          clear c4
          by_cases c5 : x8_1 < (l0.length : Int)
          · rw [if_pos c5] at H
            have c5b0 : decide (x8_1 < (l0.length : Int)) = true := decide_eq_true c5
            clear c5
            replace H := Option.bind_eq_some_iff.mp H
            obtain ⟨t316, A60, H⟩ := H
            replace H : (if t316 = true then (some x8_1) else (slices_IndexFunc_byte_byte.l0 k1 l0 (l0.length : Int) (wrap64 (x8_1 + 1)))) = some r := H
            have A6 := Aside0.mk A60
            clear A60
            by_cases c7 : t316 = true
            · subst c7
              have H1 : (some x8_1) = some r := by rw [if_pos rfl] at H; exact H
              clear H
              have H := H1
              clear H1
              obtain rfl := Option.some.inj H
              have p315 : 0 ≤ (x8_1 : Int) := of_decide_eq_true (by first | (with_reducible assumption) | assumption)
              have q315 : x8_1 < (l0.length : Int) := of_decide_eq_true (by first | (with_reducible assumption) | assumption)
              obtain ⟨ad315, e315, hx315_0⟩ := Kd.at_int HR0.out x8_1 p315 q315
              cases e315
              replace p315 := eq_true p315
              replace q315 := eq_true q315
              go_wp2_with (first | (go_at_call 43; (with_reducible refine (bits_Right_1.calls (rd l0 x8_1) true _ A6.out).mono ?_); rintro e w' ⟨rfl, ⟨nd, rfl⟩⟩))
              go_ret
              exact ⟨by first | rfl | (simp; done) | (simp [*]; done), by repeat (first | exact Drawn0.refl _ | apply Drawn0.step)⟩
            · replace c7 := Bool.eq_false_iff.mpr c7
              subst c7
              have H1 : (slices_IndexFunc_byte_byte.l0 k1 l0 (l0.length : Int) (wrap64 (x8_1 + 1))) = some r := by rw [if_neg (show ¬ (false = true) by decide)] at H; exact H
              clear H
              have H := H1
              clear H1
              have H' := Aside0.mk H
              clear H
              have p315 : 0 ≤ (x8_1 : Int) := of_decide_eq_true (by first | (with_reducible assumption) | assumption)
              have q315 : x8_1 < (l0.length : Int) := of_decide_eq_true (by first | (with_reducible assumption) | assumption)
              obtain ⟨ad315, e315, hx315_0⟩ := Kd.at_int HR0.out x8_1 p315 q315
              cases e315
              replace p315 := eq_true p315
              replace q315 := eq_true q315
              go_wp2_with (first | (go_at_call 43; (with_reducible refine (bits_Right_1.calls (rd l0 x8_1) false _ A6.out).mono ?_); rintro e w' ⟨rfl, ⟨nd, rfl⟩⟩))
              go_roundg k1
              case measure => have := HK1.out; omega
              case rel => exact ⟨(wrap64 (x8_1 + 1)), (by first | rfl | (simp; done) | (simp [*]; done)), H', ⟨by have := HK1.out; omega⟩, by repeat (first | exact Drawn0.refl _ | apply Drawn0.step)⟩
          · rw [if_neg c5] at H
            exact absurd H (by simp)
        · rw [if_neg c4] at H
          exact absurd H (by simp)
      · rw [if_neg c3] at H
        have c3b0 : decide (x8_1 < (l0.length : Int)) = false := decide_eq_false c3
        clear c3
        obtain rfl := Option.some.inj H
        go_wp2
        go_ret
        exact ⟨by first | rfl | (simp; done) | (simp [*]; done), by repeat (first | exact Drawn0.refl _ | apply Drawn0.step)⟩

end Go.Proofs.YtmajbcglpcagoaaDoor.X

-- YtmajbcglpcagoaaDoorX25
namespace Go.Proofs.YtmajbcglpcagoaaDoor.X
open Go.RowKit Go.Proofs.YtmajbcglpcagoaaDoorW.PrintWords Go.Proofs.YtmajbcglpcagoaaDoorW.PrintLast Go.Proofs.YtmajbcglpcagoaaDoorW.PrintMore
attribute [local go_sem] max2_int min2_int max_two min_two max_three min_three max_four min_four   -- for this text's walks alone
set_option linter.unusedVariables false
set_option linter.unusedSimpArgs false

/-! ### slices_ContainsFunc_byte_byte: function 42 -/
def slices_ContainsFunc_byte_byte.f (k : Nat) (l0 : List Int)  : Option (Bool) := (slices_IndexFunc_byte_byte.f k l0).bind fun t317 => (some (decide (t317 ≥ 0)))
theorem slices_ContainsFunc_byte_byte.mono : ∀ a0 k, LeO (slices_ContainsFunc_byte_byte.f k a0) (slices_ContainsFunc_byte_byte.f (k + 1) a0) := by
  intro a0 k
  unfold slices_ContainsFunc_byte_byte.f
  repeat' first
      | (with_reducible exact slices_IndexFunc_byte_byte.mono _ _)
      | (with_reducible exact LeO.refl _)
      | (with_reducible exact LeO.none _)
      | (with_reducible refine LeO.ite ?_ ?_)
      | (with_reducible refine LeO.bind ?_ (fun _ => ?_))
      | exact slices_IndexFunc_byte_byte.mono _ _
      | exact LeO.none _
      | refine LeO.ite ?_ ?_
      | refine LeO.bind ?_ (fun _ => ?_)
set_option maxHeartbeats 8000000 in
set_option maxRecDepth 100000 in
theorem slices_ContainsFunc_byte_byte.calls (k : Nat) (A0 : Option Addr) (c0 : Nat) (l0 : List Int)  (r : Bool) (w : World) (hr0 : Kd.C (Kd.int .u8) w A0 l0.length l0) (hc0 : l0.length ≤ c0) (h : slices_ContainsFunc_byte_byte.f k l0 = some r) :
    Calls Tryd.prog 42 #[.slice A0 l0.length c0, .func (.func 43) #[] #[]] w fun e w' => e = .returned (.bool r) ∧ Drawn0 w w' := by
  have HR0 := Aside0.mk hr0
  have HC0 := Aside0.mk hc0
  clear hr0 hc0
  have H : ((slices_IndexFunc_byte_byte.f k l0).bind fun t317 => (some (decide (t317 ≥ 0)))) = some r := h
  clear h
  replace H := Option.bind_eq_some_iff.mp H
  obtain ⟨t317, A30, H⟩ := H
  replace H : (some (decide (t317 ≥ 0))) = some r := H
  have A3 := Aside0.mk A30
  clear A30
  obtain rfl := Option.some.inj H
  go_enter Tryd.func42, Tryd.ntmps42
  go_wp2_with (first | ((with_reducible refine gate_callee (f := 48) rfl ?_); refine goesL_ (some 7) rfl rfl Tryd.func48 (by kernel_rfl) rfl #[.slice A0 l0.length c0, .func (.func 43) #[] #[]] rfl (by (try simp only [List.map_toArray, List.map_cons, List.map_nil]); first | done | rfl | (simp only [List.length_drop, List.length_take]; rfl)) ?_; (with_reducible refine (slices_IndexFunc_byte_byte.calls k _ _ l0  t317 _ ?side1 ?side2 A3.out).mono ?_); (case side1 => repeat (first | exact HR0.out | (with_reducible refine Kd.C_alloc ?_ _) | (with_reducible refine Kd.C_drewN ?_ _) | (with_reducible refine Kd.C_drew ?_))); (case side2 => exact HC0.out); rintro e w' ⟨rfl, ⟨nd, rfl⟩⟩; refine ⟨_, rfl, ?_⟩))
  go_ret
  exact ⟨by first | rfl | (simp; done) | (simp [*]; done), by repeat (first | exact Drawn0.refl _ | apply Drawn0.step)⟩

end Go.Proofs.YtmajbcglpcagoaaDoor.X

-- YtmajbcglpcagoaaDoorX26
namespace Go.Proofs.YtmajbcglpcagoaaDoor.X
open Go.RowKit Go.Proofs.YtmajbcglpcagoaaDoorW.PrintWords Go.Proofs.YtmajbcglpcagoaaDoorW.PrintLast Go.Proofs.YtmajbcglpcagoaaDoorW.PrintMore
attribute [local go_sem] max2_int min2_int max_two min_two max_three min_three max_four min_four   -- for this text's walks alone
set_option linter.unusedVariables false
set_option linter.unusedSimpArgs false

/-! ### bits_Right: function 31 -/
def bits_Right.f (k : Nat) (l0 : List Int) : Option (Bool) := (slices_ContainsFunc_byte_byte.f k l0).bind fun t318 => (some (!t318))
theorem bits_Right.mono : ∀ a0 k, LeO (bits_Right.f k a0) (bits_Right.f (k + 1) a0) := by
  intro a0 k
  unfold bits_Right.f
  repeat' first
      | (with_reducible exact slices_ContainsFunc_byte_byte.mono _ _)
      | (with_reducible exact LeO.refl _)
      | (with_reducible exact LeO.none _)
      | (with_reducible refine LeO.ite ?_ ?_)
      | (with_reducible refine LeO.bind ?_ (fun _ => ?_))
      | exact slices_ContainsFunc_byte_byte.mono _ _
      | exact LeO.none _
      | refine LeO.ite ?_ ?_
      | refine LeO.bind ?_ (fun _ => ?_)
set_option maxHeartbeats 8000000 in
set_option maxRecDepth 100000 in
theorem bits_Right.calls (k : Nat) (A0 : Option Addr) (c0 : Nat) (l0 : List Int) (r : Bool) (w : World) (hr0 : Kd.C (Kd.int .u8) w A0 l0.length l0) (hc0 : l0.length ≤ c0) (h : bits_Right.f k l0 = some r) :
    Calls Tryd.prog 31 #[.slice A0 l0.length c0] w fun e w' => e = .returned (.bool r) ∧ Drawn0 w w' := by
  have HR0 := Aside0.mk hr0
  have HC0 := Aside0.mk hc0
  clear hr0 hc0
  have H : ((slices_ContainsFunc_byte_byte.f k l0).bind fun t318 => (some (!t318))) = some r := h
  clear h
  replace H := Option.bind_eq_some_iff.mp H
  obtain ⟨t318, A20, H⟩ := H
  replace H : (some (!t318)) = some r := H
  have A2 := Aside0.mk A20
  clear A20
  obtain rfl := Option.some.inj H
  go_enter Tryd.func31, Tryd.ntmps31
  go_wp2_with (first | ((with_reducible refine gate_callee (f := 42) rfl ?_); refine goesL_ (some 4) rfl rfl Tryd.func42 (by kernel_rfl) rfl #[.slice A0 l0.length c0, .func (.func 43) #[] #[]] rfl (by (try simp only [List.map_toArray, List.map_cons, List.map_nil]); first | done | rfl | (simp only [List.length_drop, List.length_take]; rfl)) ?_; (with_reducible refine (slices_ContainsFunc_byte_byte.calls k _ _ l0  t318 _ ?side1 ?side2 A2.out).mono ?_); (case side1 => repeat (first | exact HR0.out | (with_reducible refine Kd.C_alloc ?_ _) | (with_reducible refine Kd.C_drewN ?_ _) | (with_reducible refine Kd.C_drew ?_))); (case side2 => exact HC0.out); rintro e w' ⟨rfl, ⟨nd, rfl⟩⟩; refine ⟨_, rfl, ?_⟩))
  go_ret
  exact ⟨by first | rfl | (simp; done) | (simp [*]; done), by repeat (first | exact Drawn0.refl _ | apply Drawn0.step)⟩

end Go.Proofs.YtmajbcglpcagoaaDoor.X

-- YtmajbcglpcagoaaDoorX27
namespace Go.Proofs.YtmajbcglpcagoaaDoor.X
open Go.RowKit Go.Proofs.YtmajbcglpcagoaaDoorW.PrintWords Go.Proofs.YtmajbcglpcagoaaDoorW.PrintLast Go.Proofs.YtmajbcglpcagoaaDoorW.PrintMore
attribute [local go_sem] max2_int min2_int max_two min_two max_three min_three max_four min_four   -- for this text's walks alone
set_option linter.unusedVariables false
set_option linter.unusedSimpArgs false

/-! ### conv_Code: function 28 -/
def conv_Code.l0 : Nat → List Int → List Int → Int → Int → Int → Option (List Int × Int)
  | 0, _, _, _, _, _ => none
  | k + 1, x0, x4, x5, x20, x21 => if x21 < x20 then (if x21 < (x0.length : Int) then (if 0 ≤ x21 then ((conv_word.f x5 (rd x0 x21)).bind fun t322 => ((conv_out.f t322).bind fun bt323 => (if x4.length + [bt323.1, bt323.2.1, bt323.2.2.1, bt323.2.2.2].length < 140737488355328 then (conv_Code.l0 k x0 (x4 ++ [bt323.1, bt323.2.1, bt323.2.2.1, bt323.2.2.2]) (wrap64 (t322 / 2)) x20 (wrap64 (x21 + 1))) else (none)))) else (none)) else ((conv_word.f x5 0).bind fun t332 => ((conv_out.f t332).bind fun bt333 => (if x4.length + [bt333.1, bt333.2.1, bt333.2.2.1, bt333.2.2.2].length < 140737488355328 then (conv_Code.l0 k x0 (x4 ++ [bt333.1, bt333.2.1, bt333.2.2.1, bt333.2.2.2]) (wrap64 (t332 / 2)) x20 (wrap64 (x21 + 1))) else (none))))) else (some (x4, 0))
def conv_Code.f (k : Nat) (l0 : List Int) : Option (List Int × Int) := (bits_Right.f k l0).bind fun t319 => (if t319 = true then (if (l0.length : Int) > 16384 then (some (([] : List Int), 7)) else ((conv_Steps.f (l0.length : Int)).bind fun t320 => (conv_Code.l0 k l0 ([] : List Int) 0 t320 0))) else (some (([] : List Int), 5)))
theorem conv_Code.mono_l : ∀ k, (∀ y0 y1 y2 y3 y4, LeO (conv_Code.l0 k y0 y1 y2 y3 y4) (conv_Code.l0 (k + 1) y0 y1 y2 y3 y4))
  | 0 => fun _ _ _ _ _ r h => by simp [conv_Code.l0] at h
  | k + 1 => by
    have ih0 := conv_Code.mono_l k
    · intro y0 y1 y2 y3 y4
      unfold conv_Code.l0
      repeat' first
      | (with_reducible exact ih0 _ _ _ _ _)
      | (with_reducible exact bits_Right.mono _ _)
      | (with_reducible exact LeO.refl _)
      | (with_reducible exact LeO.none _)
      | (with_reducible refine LeO.ite ?_ ?_)
      | (with_reducible refine LeO.bind ?_ (fun _ => ?_))
      | exact ih0 _ _ _ _ _
      | exact bits_Right.mono _ _
      | exact LeO.none _
      | refine LeO.ite ?_ ?_
      | refine LeO.bind ?_ (fun _ => ?_)
theorem conv_Code.mono : ∀ a0 k, LeO (conv_Code.f k a0) (conv_Code.f (k + 1) a0) := by
  intro a0 k
  have ih0 := conv_Code.mono_l k
  unfold conv_Code.f
  repeat' first
      | (with_reducible exact ih0 _ _ _ _ _)
      | (with_reducible exact bits_Right.mono _ _)
      | (with_reducible exact LeO.refl _)
      | (with_reducible exact LeO.none _)
      | (with_reducible refine LeO.ite ?_ ?_)
      | (with_reducible refine LeO.bind ?_ (fun _ => ?_))
      | exact ih0 _ _ _ _ _
      | exact bits_Right.mono _ _
      | exact LeO.none _
      | refine LeO.ite ?_ ?_
      | refine LeO.bind ?_ (fun _ => ?_)
set_option maxHeartbeats 8000000 in
set_option maxRecDepth 100000 in
theorem conv_Code.calls (k : Nat) (A0 : Option Addr) (c0 : Nat) (l0 : List Int) (r1 : List Int) (r2 : Int) (w : World) (hr0 : Kd.C (Kd.int .u8) w A0 l0.length l0) (hc0 : l0.length ≤ c0) (h : conv_Code.f k l0 = some (r1, r2)) (hT_ : TP w := by first | assumption | exact TP_of (by assumption : TP _) (by repeat (first | (with_reducible first | apply below_alloc | apply pw_below_drewN | apply below_drew1 | refine below_set ?_ (Aside0.out (by assumption))) | exact Aside0.out (by assumption) | exact Below.refl _ _))) :
    Calls Tryd.prog 28 #[.slice A0 l0.length c0] w fun e w' => ∃ v0_ : Value, e = .returned (.tuple #[v0_, .int .i64 r2]) ∧ Kd.R (Kd.int .u8) 5 w' w.heap.size (fun _ => True) v0_ r1 ∧ Below w.heap.size w w' := by
  have hu22 := Tryd.underlying22
  have HR0 := Aside0.mk hr0
  have HC0 := Aside0.mk hc0
  clear hr0 hc0
  have HB := Aside0.mk (Below.refl w.heap.size w)
  have H : ((bits_Right.f k l0).bind fun t319 => (if t319 = true then (if (l0.length : Int) > 16384 then (some (([] : List Int), 7)) else ((conv_Steps.f (l0.length : Int)).bind fun t320 => (conv_Code.l0 k l0 ([] : List Int) 0 t320 0))) else (some (([] : List Int), 5)))) = some (r1, r2) := h
  clear h
  replace H := Option.bind_eq_some_iff.mp H
  obtain ⟨t319, A20, H⟩ := H
  replace H : (if t319 = true then (if (l0.length : Int) > 16384 then (some (([] : List Int), 7)) else ((conv_Steps.f (l0.length : Int)).bind fun t320 => (conv_Code.l0 k l0 ([] : List Int) 0 t320 0))) else (some (([] : List Int), 5))) = some (r1, r2) := H
  have A2 := Aside0.mk A20
  clear A20
  by_cases c3 : t319 = true
  · subst c3
    have H1 : (if (l0.length : Int) > 16384 then (some (([] : List Int), 7)) else ((conv_Steps.f (l0.length : Int)).bind fun t320 => (conv_Code.l0 k l0 ([] : List Int) 0 t320 0))) = some (r1, r2) := by rw [if_pos rfl] at H; exact H
    clear H
    have H := H1
    clear H1
    by_cases c4 : (l0.length : Int) > 16384
    · rw [if_pos c4] at H
      have c4b0 : decide (16384 < (l0.length : Int)) = true := decide_eq_true c4
      have c4b1 : decide (16384 < l0.length) = true := decide_eq_true (by omega)
      clear c4
      simp only [Option.some.injEq, Prod.mk.injEq] at H
      obtain ⟨rfl, rfl⟩ := H
      go_enter Tryd.func28, Tryd.ntmps28
      go_wp2_with (first | ((with_reducible refine gate_callee (f := 31) rfl ?_); refine goesL_ (some 12) rfl rfl Tryd.func31 (by kernel_rfl) rfl #[.slice A0 l0.length c0] rfl (by (try simp only [List.map_toArray, List.map_cons, List.map_nil]); first | done | rfl | (simp only [List.length_drop, List.length_take]; rfl)) ?_; (with_reducible refine (bits_Right.calls k _ _ l0 true _ ?side1 ?side2 A2.out).mono ?_); (case side1 => repeat (first | exact HR0.out | (with_reducible refine Kd.C_alloc ?_ _) | (with_reducible refine Kd.C_drewN ?_ _) | (with_reducible refine Kd.C_drew ?_))); (case side2 => exact HC0.out); rintro e w' ⟨rfl, ⟨nd, rfl⟩⟩; refine ⟨_, rfl, ?_⟩))
      go_ret2
      exact ⟨_, by first | rfl | (simp [errW_none, errW_some] <;> rfl) | (simp [*, errW_none, errW_some] <;> rfl), by first | exact Kd.R_nil _ _ _ _ _ | exact Kd.N_nil _ _ _ _ _ | exact Kd.V_nil _ _ _ _ _ | exact Kd.Q_nil _ _ _ _ _ | exact Kd.S_nil _ _ _ _ _, by repeat (first | (with_reducible first | exact HB.out | apply below_alloc | apply pw_below_drewN | apply below_drew1) | exact HB.out)⟩
    · rw [if_neg c4] at H
      have c4b0 : decide (16384 < (l0.length : Int)) = false := decide_eq_false c4
      have c4b1 : decide (16384 < l0.length) = false := decide_eq_false (by omega)
      clear c4
      replace H := Option.bind_eq_some_iff.mp H
      obtain ⟨t320, A50, H⟩ := H
      replace H : (conv_Code.l0 k l0 ([] : List Int) 0 t320 0) = some (r1, r2) := H
      have A5 := Aside0.mk A50
      clear A50
      have H' := Aside0.mk H
      clear H
      go_enter Tryd.func28, Tryd.ntmps28
      go_wp2_with (first | ((with_reducible refine gate_callee (f := 31) rfl ?_); refine goesL_ (some 12) rfl rfl Tryd.func31 (by kernel_rfl) rfl #[.slice A0 l0.length c0] rfl (by (try simp only [List.map_toArray, List.map_cons, List.map_nil]); first | done | rfl | (simp only [List.length_drop, List.length_take]; rfl)) ?_; (with_reducible refine (bits_Right.calls k _ _ l0 true _ ?side1 ?side2 A2.out).mono ?_); (case side1 => repeat (first | exact HR0.out | (with_reducible refine Kd.C_alloc ?_ _) | (with_reducible refine Kd.C_drewN ?_ _) | (with_reducible refine Kd.C_drew ?_))); (case side2 => exact HC0.out); rintro e w' ⟨rfl, ⟨nd, rfl⟩⟩; refine ⟨_, rfl, ?_⟩) | ((with_reducible refine gate_callee (f := 29) rfl ?_); refine goesL_ (some 20) rfl rfl Tryd.func29 (by kernel_rfl) rfl #[.int .i64 (l0.length : Int)] rfl (by (try simp only [List.map_toArray, List.map_cons, List.map_nil]); first | done | rfl | (simp only [List.length_drop, List.length_take]; rfl)) ?_; (with_reducible refine (conv_Steps.calls (l0.length : Int) t320 _ A5.out).mono ?_); rintro e w' ⟨rfl, ⟨nd, rfl⟩⟩; refine ⟨_, rfl, ?_⟩))
      go_loopg [4, 5, 21] k (fun kq v4 v5 v21 w' => ∃ (x4_1 : List Int) (x5_1 : Int) (x21_1 : Int), v5 = .int .i64 x5_1 ∧ v21 = .int .i64 x21_1 ∧ Aside0 (conv_Code.l0 kq l0 x4_1 x5_1 t320 x21_1 = some (r1, r2)) ∧ Aside0 (kq ≤ k) ∧ Aside0 (Kd.R (Kd.int .u8) 5 w' w.heap.size (fun _ => True) v4 x4_1) ∧ Aside0 (Below w.heap.size w w'))
      case atStart => exact ⟨(([] : List Int)), (0), (0), (by first | rfl | (simp; done) | (simp [*]; done)), (by first | rfl | (simp; done) | (simp [*]; done)), H', ⟨Nat.le_refl _⟩, ⟨by first | exact Kd.R_nil _ _ _ _ _ | exact Kd.N_nil _ _ _ _ _ | exact Kd.V_nil _ _ _ _ _ | exact Kd.Q_nil _ _ _ _ _ | exact Kd.S_nil _ _ _ _ _⟩, ⟨by repeat (first | (with_reducible first | exact HB.out | apply below_alloc | apply pw_below_drewN | apply below_drew1) | exact HB.out)⟩⟩
      case round =>
        clear H'
        try clear c2
        try clear p2
        try clear c3
        try clear c4
        try clear c4b0
        try clear c4b1
        obtain ⟨x4_1, x5_1, x21_1, rfl, rfl, HA, HK1, HO_4, HB⟩ := hrel
        cases gk with
        | zero => exact absurd HA.out (by simp [conv_Code.l0])
        | succ k1 =>
          have H := HA.out
          clear HA
          simp only [conv_Code.l0] at H
          by_cases c6 : x21_1 < t320
          · rw [if_pos c6] at H
            have c6b0 : decide (x21_1 < t320) = true := decide_eq_true c6
            clear c6
            by_cases c7 : x21_1 < (l0.length : Int)
            · rw [if_pos c7] at H
              have c7b0 : decide (x21_1 < (l0.length : Int)) = true := decide_eq_true c7
              clear c7
              by_cases c8 : 0 ≤ x21_1
              · rw [if_pos c8] at H
                have c8b0 : decide (0 ≤ x21_1) = true := decide_eq_true c8
                clear c8
                replace H := Option.bind_eq_some_iff.mp H
                obtain ⟨t322, A90, H⟩ := H
                replace H : ((conv_out.f t322).bind fun bt323 => (if x4_1.length + [bt323.1, bt323.2.1, bt323.2.2.1, bt323.2.2.2].length < 140737488355328 then (conv_Code.l0 k1 l0 (x4_1 ++ [bt323.1, bt323.2.1, bt323.2.2.1, bt323.2.2.2]) (wrap64 (t322 / 2)) t320 (wrap64 (x21_1 + 1))) else (none))) = some (r1, r2) := H
                have A9 := Aside0.mk A90
                clear A90
                replace H := Option.bind_eq_some_iff.mp H
                obtain ⟨⟨t323, t324, t325, t326⟩, A100, H⟩ := H
                replace H : (if x4_1.length + [t323, t324, t325, t326].length < 140737488355328 then (conv_Code.l0 k1 l0 (x4_1 ++ [t323, t324, t325, t326]) (wrap64 (t322 / 2)) t320 (wrap64 (x21_1 + 1))) else (none)) = some (r1, r2) := H
                have A10 := Aside0.mk A100
                clear A100
                by_cases c11 : x4_1.length + [t323, t324, t325, t326].length < 140737488355328
                · rw [if_pos c11] at H
                  have LMc11 := Aside0.mk c11
                  clear c11
                  obtain ⟨y329, hy329⟩ : ∃ y_ : List Int, y_ = (x4_1 ++ [t323, t324, t325, t326]) := ⟨_, rfl⟩
                  replace H : (conv_Code.l0 k1 l0 y329 (wrap64 (t322 / 2)) t320 (wrap64 (x21_1 + 1))) = some (r1, r2) := by first | (rw [hy329]; with_reducible exact H) | (have H2_ := (Option.bind_some _ _).symm.trans H; rw [hy329]; with_reducible exact H2_) | (have H2_ := (Option.bind_some _ _).symm.trans H; with_reducible exact H2_) | with_reducible exact H | (rw [hy329]; exact H) | exact H
                  have Ny329 := Aside0.mk hy329
                  clear hy329
                  have H' := Aside0.mk H
                  clear H
                  have p321 : 0 ≤ (x21_1 : Int) := of_decide_eq_true (by first | (with_reducible assumption) | assumption)
                  have q321 : x21_1 < (l0.length : Int) := of_decide_eq_true (by first | (with_reducible assumption) | assumption)
                  obtain ⟨ad321, e321, hx321_0⟩ := Kd.at_int HR0.out x21_1 p321 q321
                  cases e321
                  replace hx321_0 := (HB.out.cell (World.block_lt_of_cell? w _ hx321_0)).trans hx321_0
                  replace p321 := eq_true p321
                  replace q321 := eq_true q321
                  go_wp2_with (first | ((with_reducible refine gate_callee (f := 39) rfl ?_); refine goesL_ (some 34) rfl rfl Tryd.func39 (by kernel_rfl) rfl #[.int .i64 x5_1, .int .u8 (rd l0 x21_1)] rfl (by (try simp only [List.map_toArray, List.map_cons, List.map_nil]); first | done | rfl | (simp only [List.length_drop, List.length_take]; rfl)) ?_; (with_reducible refine (conv_word.calls x5_1 (rd l0 x21_1) t322 _ A9.out).mono ?_); rintro e w' ⟨rfl, ⟨nd, rfl⟩⟩; refine ⟨_, rfl, ?_⟩; (try (rw [drewN_self wr]; generalize hq_ : World.drewN wr _ = wr; have n0_ : Aside0 (Kd.R (Kd.int .u8) 5 wr w.heap.size (fun _ => True) u4 x4_1) := ⟨by rw [← hq_]; exact (by (with_reducible repeat (first | apply Kd.R_alloc | apply Kd.R_drewN | apply Kd.R_drew)); exact HO_4.out)⟩; have n1_ : Aside0 (Below w.heap.size w wr) := ⟨by rw [← hq_]; exact (by repeat (first | (with_reducible first | exact HB.out | apply below_alloc | apply pw_below_drewN | apply below_drew1) | exact HB.out))⟩; clear HO_4 HB hq_; have HO_4 := n0_; have HB := n1_; clear n0_ n1_))) | ((with_reducible refine gate_callee (f := 40) rfl ?_); refine goesL_ (some 36) rfl rfl Tryd.func40 (by kernel_rfl) rfl #[.int .u64 t322] rfl (by (try simp only [List.map_toArray, List.map_cons, List.map_nil]); first | done | rfl | (simp only [List.length_drop, List.length_take]; rfl)) ?_; (with_reducible refine (conv_out.calls t322 t323 t324 t325 t326 _ A10.out).mono ?_); rintro e w12 ⟨rfl, hb⟩; refine ⟨_, rfl, ?_⟩; have n0_ := Aside0.mk (Kd.R_below (by (with_reducible repeat (first | apply Kd.R_alloc | apply Kd.R_drewN | apply Kd.R_drew)); exact HO_4.out) hb); have n1_ := Aside0.mk (below_step (by repeat (first | (with_reducible first | exact HB.out | apply below_alloc | apply pw_below_drewN | apply below_drew1) | exact HB.out)) hb); clear HO_4; clear HB; have HO_4 := n0_; have HB := n1_; clear n0_ n1_; (try clear hb); (try clear hb2); (try clear hk); (try clear hi)) | ((with_reducible refine gate_dst (N := 9) rfl ?_); refine box_event ?hg (N := 9) ?hd (cs := #[.int .u8 0, .int .u8 0, .int .u8 0, .int .u8 0]) (t := 22) ?hr ?_; (case hd => rfl); (case hg => rfl); (case hr => first | (go_simp; done) | (go_simp; rfl)); intro gb327 hg w13 hbox hb; have n0_ := Aside0.mk (Kd.R_below (by (with_reducible repeat (first | apply Kd.R_alloc | apply Kd.R_drewN | apply Kd.R_drew)); exact HO_4.out) hb); have n1_ := Aside0.mk (below_step (by repeat (first | (with_reducible first | exact HB.out | apply below_alloc | apply pw_below_drewN | apply below_drew1) | exact HB.out)) hb); have n2_ := Aside0.mk (hbox); have n3_ := Aside0.mk ((by rw [hg]; exact (below_size (by repeat (first | (with_reducible first | exact HB.out | apply below_alloc | apply pw_below_drewN | apply below_drew1) | exact HB.out))) : w.heap.size ≤ gb327)); have n4_ := Aside0.mk ((by rw [hg]; exact (below_size (by repeat (first | (with_reducible first | exact HB.out | apply below_alloc | apply pw_below_drewN | apply below_drew1) | exact HB.out))) : w.heap.size ≤ gb327)); clear HO_4; clear HB; have HO_4 := n0_; have HB := n1_; have BK327 := n2_; have GW327 := n3_; have GE327 := n4_; clear n0_ n1_ n2_ n3_ n4_; clear hb hbox hg; have hcz14_0 : w13.cell? ⟨gb327, 0, none⟩ = some (.int .u8 0) := (blk_cell BK327.out 0).trans rfl; have hcz14_1 : w13.cell? ⟨gb327, 1, none⟩ = some (.int .u8 0) := (blk_cell BK327.out 1).trans rfl; have hcz14_2 : w13.cell? ⟨gb327, 2, none⟩ = some (.int .u8 0) := (blk_cell BK327.out 2).trans rfl; have hcz14_3 : w13.cell? ⟨gb327, 3, none⟩ = some (.int .u8 0) := (blk_cell BK327.out 3).trans rfl; have hfz14_0 := blk_frozen BK327.out 0; have hfz14_1 := blk_frozen BK327.out 1; have hfz14_2 := blk_frozen BK327.out 2; have hfz14_3 := blk_frozen BK327.out 3) | ((with_reducible refine gate_builtin (b := .append) (xs := #[.tmp 37, .tmp 38]) rfl ?_); at_builtin; refine Kd.R_append_rows (Kd.int .u8) (w0 := w) w.heap.size rfl (.tmp 37) (.tmp 38) 35 5 (.int .u8 0) 1 rfl Tryd.underlying35 info5 rfl (by decide) (by omega) u4 x4_1 [t323, t324, t325, t326] _ _ _ (fun _ => True) (fun _ => False) rfl rfl ?aO ?aR (fun _ _ h => h) (fun _ h => h.elim) ?aF ?aB ?aS ?aL ?_; (case aR => first | (refine reads_len (show [t323, t324, t325, t326].length = 4 from rfl) ?_; exact C_of_blk (k := .u8) (xs := [t323, t324, t325, t326]) (cs := #[.int .u8 t323, .int .u8 t324, .int .u8 t325, .int .u8 t326]) (t := 22) (g := gb327) (by (with_reducible repeat (first | refine blk_drewN ?_ _ | refine blk_drew ?_ | refine blk_alloc ?_ _)); refine blk_put (cs := #[.int .u8 t323, .int .u8 t324, .int .u8 t325, .int .u8 0]) ?_ 3 _ rfl; (with_reducible repeat (first | refine blk_drewN ?_ _ | refine blk_drew ?_ | refine blk_alloc ?_ _)); refine blk_put (cs := #[.int .u8 t323, .int .u8 t324, .int .u8 0, .int .u8 0]) ?_ 2 _ rfl; (with_reducible repeat (first | refine blk_drewN ?_ _ | refine blk_drew ?_ | refine blk_alloc ?_ _)); refine blk_put (cs := #[.int .u8 t323, .int .u8 0, .int .u8 0, .int .u8 0]) ?_ 1 _ rfl; (with_reducible repeat (first | refine blk_drewN ?_ _ | refine blk_drew ?_ | refine blk_alloc ?_ _)); refine blk_put (cs := #[.int .u8 0, .int .u8 0, .int .u8 0, .int .u8 0]) ?_ 0 _ rfl; (with_reducible repeat (first | refine blk_drewN ?_ _ | refine blk_drew ?_ | refine blk_alloc ?_ _)); exact BK327.out) rfl ⟨rfl, by simp⟩) | (exact C_of_blk (k := .u8) (xs := [t323, t324, t325, t326]) (cs := #[.int .u8 t323, .int .u8 t324, .int .u8 t325, .int .u8 t326]) (t := 22) (g := gb327) (by (with_reducible repeat (first | refine blk_drewN ?_ _ | refine blk_drew ?_ | refine blk_alloc ?_ _)); refine blk_put (cs := #[.int .u8 t323, .int .u8 t324, .int .u8 t325, .int .u8 0]) ?_ 3 _ rfl; (with_reducible repeat (first | refine blk_drewN ?_ _ | refine blk_drew ?_ | refine blk_alloc ?_ _)); refine blk_put (cs := #[.int .u8 t323, .int .u8 t324, .int .u8 0, .int .u8 0]) ?_ 2 _ rfl; (with_reducible repeat (first | refine blk_drewN ?_ _ | refine blk_drew ?_ | refine blk_alloc ?_ _)); refine blk_put (cs := #[.int .u8 t323, .int .u8 0, .int .u8 0, .int .u8 0]) ?_ 1 _ rfl; (with_reducible repeat (first | refine blk_drewN ?_ _ | refine blk_drew ?_ | refine blk_alloc ?_ _)); refine blk_put (cs := #[.int .u8 0, .int .u8 0, .int .u8 0, .int .u8 0]) ?_ 0 _ rfl; (with_reducible repeat (first | refine blk_drewN ?_ _ | refine blk_drew ?_ | refine blk_alloc ?_ _)); exact BK327.out) rfl ⟨rfl, by simp⟩)); (case aB => exact (by repeat (first | (with_reducible first | exact HB.out | apply below_alloc | apply pw_below_drewN | apply below_drew1 | refine below_set ?_ GE327.out) | exact HB.out))); (case aF => exact (fun _ _ => trivial)); (case aO => exact (by (with_reducible repeat (first | apply Kd.R_alloc | apply Kd.R_drewN | apply Kd.R_drew)); exact Kd.R_mono (Kd.R_far (p := ⟨gb327, 3, none⟩) (Kd.R_far (p := ⟨gb327, 2, none⟩) (Kd.R_far (p := ⟨gb327, 1, none⟩) (Kd.R_far (p := ⟨gb327, 0, none⟩) (Kd.R_types HO_4.out BK327.out (by decide)) (fun _ hk => hk.2) (.int .u8 t323)) (fun _ hk => hk.2) (.int .u8 t324)) (fun _ hk => hk.2) (.int .u8 t325)) (fun _ hk => hk.2) (.int .u8 t326)) (fun _ hk => trivial))); (case aS => exact (below_size (by repeat (first | (with_reducible first | exact HB.out | apply below_alloc | apply pw_below_drewN | apply below_drew1 | refine below_set ?_ GE327.out) | exact HB.out)))); (case aL => have := LMc11.out; have hlx_ := (show [t323, t324, t325, t326].length = 4 from rfl); omega); intro v330 w15 ho hb hg hat; rw [← Ny329.out] at ho; have n0_ := Aside0.mk (blk_grown (g := gb327) (o := .cells #[.int .u8 t323, .int .u8 t324, .int .u8 t325, .int .u8 t326] 22 (0, 0)) (by (with_reducible repeat (first | refine blk_drewN ?_ _ | refine blk_drew ?_ | refine blk_alloc ?_ _)); refine blk_put (cs := #[.int .u8 t323, .int .u8 t324, .int .u8 t325, .int .u8 0]) ?_ 3 _ rfl; (with_reducible repeat (first | refine blk_drewN ?_ _ | refine blk_drew ?_ | refine blk_alloc ?_ _)); refine blk_put (cs := #[.int .u8 t323, .int .u8 t324, .int .u8 0, .int .u8 0]) ?_ 2 _ rfl; (with_reducible repeat (first | refine blk_drewN ?_ _ | refine blk_drew ?_ | refine blk_alloc ?_ _)); refine blk_put (cs := #[.int .u8 t323, .int .u8 0, .int .u8 0, .int .u8 0]) ?_ 1 _ rfl; (with_reducible repeat (first | refine blk_drewN ?_ _ | refine blk_drew ?_ | refine blk_alloc ?_ _)); refine blk_put (cs := #[.int .u8 0, .int .u8 0, .int .u8 0, .int .u8 0]) ?_ 0 _ rfl; (with_reducible repeat (first | refine blk_drewN ?_ _ | refine blk_drew ?_ | refine blk_alloc ?_ _)); exact BK327.out) hg (Kd.R_ne HO_4.out BK327.out (by decide))); have n1_ := Aside0.mk (hb); have n2_ := Aside0.mk (ho); clear BK327; clear HB; clear HO_4; have BK327 := n0_; have HB := n1_; have HO331 := n2_; clear n0_ n1_ n2_; clear ho hb hg hat))
                  go_roundg k1
                  case measure => have := HK1.out; omega
                  case rel => exact ⟨(y329), (wrap64 (t322 / 2)), (wrap64 (x21_1 + 1)), (by first | rfl | (simp; done) | (simp [*]; done)), (by first | rfl | (simp; done) | (simp [*]; done)), H', ⟨by have := HK1.out; omega⟩, ⟨by (with_reducible repeat (first | apply Kd.R_alloc | apply Kd.R_drewN | apply Kd.R_drew)); exact HO331.out⟩, ⟨by repeat (first | (with_reducible first | exact HB.out | apply below_alloc | apply pw_below_drewN | apply below_drew1 | refine below_set ?_ GE327.out) | exact HB.out)⟩⟩
                · rw [if_neg c11] at H
                  exact absurd H (by simp)
              · rw [if_neg c8] at H
                exact absurd H (by simp)
            · rw [if_neg c7] at H
              have c7b0 : decide (x21_1 < (l0.length : Int)) = false := decide_eq_false c7
              clear c7
              replace H := Option.bind_eq_some_iff.mp H
              obtain ⟨t332, A160, H⟩ := H
              replace H : ((conv_out.f t332).bind fun bt333 => (if x4_1.length + [bt333.1, bt333.2.1, bt333.2.2.1, bt333.2.2.2].length < 140737488355328 then (conv_Code.l0 k1 l0 (x4_1 ++ [bt333.1, bt333.2.1, bt333.2.2.1, bt333.2.2.2]) (wrap64 (t332 / 2)) t320 (wrap64 (x21_1 + 1))) else (none))) = some (r1, r2) := H
              have A16 := Aside0.mk A160
              clear A160
              replace H := Option.bind_eq_some_iff.mp H
              obtain ⟨⟨t333, t334, t335, t336⟩, A170, H⟩ := H
              replace H : (if x4_1.length + [t333, t334, t335, t336].length < 140737488355328 then (conv_Code.l0 k1 l0 (x4_1 ++ [t333, t334, t335, t336]) (wrap64 (t332 / 2)) t320 (wrap64 (x21_1 + 1))) else (none)) = some (r1, r2) := H
              have A17 := Aside0.mk A170
              clear A170
              by_cases c18 : x4_1.length + [t333, t334, t335, t336].length < 140737488355328
              · rw [if_pos c18] at H
                have LMc18 := Aside0.mk c18
                clear c18
                obtain ⟨y339, hy339⟩ : ∃ y_ : List Int, y_ = (x4_1 ++ [t333, t334, t335, t336]) := ⟨_, rfl⟩
                replace H : (conv_Code.l0 k1 l0 y339 (wrap64 (t332 / 2)) t320 (wrap64 (x21_1 + 1))) = some (r1, r2) := by first | (rw [hy339]; with_reducible exact H) | (have H2_ := (Option.bind_some _ _).symm.trans H; rw [hy339]; with_reducible exact H2_) | (have H2_ := (Option.bind_some _ _).symm.trans H; with_reducible exact H2_) | with_reducible exact H | (rw [hy339]; exact H) | exact H
                have Ny339 := Aside0.mk hy339
                clear hy339
                have H' := Aside0.mk H
                clear H
                go_wp2_with (first | ((with_reducible refine gate_callee (f := 39) rfl ?_); refine goesL_ (some 34) rfl rfl Tryd.func39 (by kernel_rfl) rfl #[.int .i64 x5_1, .int .u8 0] rfl (by (try simp only [List.map_toArray, List.map_cons, List.map_nil]); first | done | rfl | (simp only [List.length_drop, List.length_take]; rfl)) ?_; (with_reducible refine (conv_word.calls x5_1 0 t332 _ A16.out).mono ?_); rintro e w' ⟨rfl, ⟨nd, rfl⟩⟩; refine ⟨_, rfl, ?_⟩; (try (rw [drewN_self wr]; generalize hq_ : World.drewN wr _ = wr; have n0_ : Aside0 (Kd.R (Kd.int .u8) 5 wr w.heap.size (fun _ => True) u4 x4_1) := ⟨by rw [← hq_]; exact (by (with_reducible repeat (first | apply Kd.R_alloc | apply Kd.R_drewN | apply Kd.R_drew)); exact HO_4.out)⟩; have n1_ : Aside0 (Below w.heap.size w wr) := ⟨by rw [← hq_]; exact (by repeat (first | (with_reducible first | exact HB.out | apply below_alloc | apply pw_below_drewN | apply below_drew1) | exact HB.out))⟩; clear HO_4 HB hq_; have HO_4 := n0_; have HB := n1_; clear n0_ n1_))) | ((with_reducible refine gate_callee (f := 40) rfl ?_); refine goesL_ (some 36) rfl rfl Tryd.func40 (by kernel_rfl) rfl #[.int .u64 t332] rfl (by (try simp only [List.map_toArray, List.map_cons, List.map_nil]); first | done | rfl | (simp only [List.length_drop, List.length_take]; rfl)) ?_; (with_reducible refine (conv_out.calls t332 t333 t334 t335 t336 _ A17.out).mono ?_); rintro e w19 ⟨rfl, hb⟩; refine ⟨_, rfl, ?_⟩; have n0_ := Aside0.mk (Kd.R_below (by (with_reducible repeat (first | apply Kd.R_alloc | apply Kd.R_drewN | apply Kd.R_drew)); exact HO_4.out) hb); have n1_ := Aside0.mk (below_step (by repeat (first | (with_reducible first | exact HB.out | apply below_alloc | apply pw_below_drewN | apply below_drew1) | exact HB.out)) hb); clear HO_4; clear HB; have HO_4 := n0_; have HB := n1_; clear n0_ n1_; (try clear hb); (try clear hb2); (try clear hk); (try clear hi)) | ((with_reducible refine gate_dst (N := 9) rfl ?_); refine box_event ?hg (N := 9) ?hd (cs := #[.int .u8 0, .int .u8 0, .int .u8 0, .int .u8 0]) (t := 22) ?hr ?_; (case hd => rfl); (case hg => rfl); (case hr => first | (go_simp; done) | (go_simp; rfl)); intro gb337 hg w20 hbox hb; have n0_ := Aside0.mk (Kd.R_below (by (with_reducible repeat (first | apply Kd.R_alloc | apply Kd.R_drewN | apply Kd.R_drew)); exact HO_4.out) hb); have n1_ := Aside0.mk (below_step (by repeat (first | (with_reducible first | exact HB.out | apply below_alloc | apply pw_below_drewN | apply below_drew1) | exact HB.out)) hb); have n2_ := Aside0.mk (hbox); have n3_ := Aside0.mk ((by rw [hg]; exact (below_size (by repeat (first | (with_reducible first | exact HB.out | apply below_alloc | apply pw_below_drewN | apply below_drew1) | exact HB.out))) : w.heap.size ≤ gb337)); have n4_ := Aside0.mk ((by rw [hg]; exact (below_size (by repeat (first | (with_reducible first | exact HB.out | apply below_alloc | apply pw_below_drewN | apply below_drew1) | exact HB.out))) : w.heap.size ≤ gb337)); clear HO_4; clear HB; have HO_4 := n0_; have HB := n1_; have BK337 := n2_; have GW337 := n3_; have GE337 := n4_; clear n0_ n1_ n2_ n3_ n4_; clear hb hbox hg; have hcz21_0 : w20.cell? ⟨gb337, 0, none⟩ = some (.int .u8 0) := (blk_cell BK337.out 0).trans rfl; have hcz21_1 : w20.cell? ⟨gb337, 1, none⟩ = some (.int .u8 0) := (blk_cell BK337.out 1).trans rfl; have hcz21_2 : w20.cell? ⟨gb337, 2, none⟩ = some (.int .u8 0) := (blk_cell BK337.out 2).trans rfl; have hcz21_3 : w20.cell? ⟨gb337, 3, none⟩ = some (.int .u8 0) := (blk_cell BK337.out 3).trans rfl; have hfz21_0 := blk_frozen BK337.out 0; have hfz21_1 := blk_frozen BK337.out 1; have hfz21_2 := blk_frozen BK337.out 2; have hfz21_3 := blk_frozen BK337.out 3) | ((with_reducible refine gate_builtin (b := .append) (xs := #[.tmp 37, .tmp 38]) rfl ?_); at_builtin; refine Kd.R_append_rows (Kd.int .u8) (w0 := w) w.heap.size rfl (.tmp 37) (.tmp 38) 35 5 (.int .u8 0) 1 rfl Tryd.underlying35 info5 rfl (by decide) (by omega) u4 x4_1 [t333, t334, t335, t336] _ _ _ (fun _ => True) (fun _ => False) rfl rfl ?aO ?aR (fun _ _ h => h) (fun _ h => h.elim) ?aF ?aB ?aS ?aL ?_; (case aR => first | (refine reads_len (show [t333, t334, t335, t336].length = 4 from rfl) ?_; exact C_of_blk (k := .u8) (xs := [t333, t334, t335, t336]) (cs := #[.int .u8 t333, .int .u8 t334, .int .u8 t335, .int .u8 t336]) (t := 22) (g := gb337) (by (with_reducible repeat (first | refine blk_drewN ?_ _ | refine blk_drew ?_ | refine blk_alloc ?_ _)); refine blk_put (cs := #[.int .u8 t333, .int .u8 t334, .int .u8 t335, .int .u8 0]) ?_ 3 _ rfl; (with_reducible repeat (first | refine blk_drewN ?_ _ | refine blk_drew ?_ | refine blk_alloc ?_ _)); refine blk_put (cs := #[.int .u8 t333, .int .u8 t334, .int .u8 0, .int .u8 0]) ?_ 2 _ rfl; (with_reducible repeat (first | refine blk_drewN ?_ _ | refine blk_drew ?_ | refine blk_alloc ?_ _)); refine blk_put (cs := #[.int .u8 t333, .int .u8 0, .int .u8 0, .int .u8 0]) ?_ 1 _ rfl; (with_reducible repeat (first | refine blk_drewN ?_ _ | refine blk_drew ?_ | refine blk_alloc ?_ _)); refine blk_put (cs := #[.int .u8 0, .int .u8 0, .int .u8 0, .int .u8 0]) ?_ 0 _ rfl; (with_reducible repeat (first | refine blk_drewN ?_ _ | refine blk_drew ?_ | refine blk_alloc ?_ _)); exact BK337.out) rfl ⟨rfl, by simp⟩) | (exact C_of_blk (k := .u8) (xs := [t333, t334, t335, t336]) (cs := #[.int .u8 t333, .int .u8 t334, .int .u8 t335, .int .u8 t336]) (t := 22) (g := gb337) (by (with_reducible repeat (first | refine blk_drewN ?_ _ | refine blk_drew ?_ | refine blk_alloc ?_ _)); refine blk_put (cs := #[.int .u8 t333, .int .u8 t334, .int .u8 t335, .int .u8 0]) ?_ 3 _ rfl; (with_reducible repeat (first | refine blk_drewN ?_ _ | refine blk_drew ?_ | refine blk_alloc ?_ _)); refine blk_put (cs := #[.int .u8 t333, .int .u8 t334, .int .u8 0, .int .u8 0]) ?_ 2 _ rfl; (with_reducible repeat (first | refine blk_drewN ?_ _ | refine blk_drew ?_ | refine blk_alloc ?_ _)); refine blk_put (cs := #[.int .u8 t333, .int .u8 0, .int .u8 0, .int .u8 0]) ?_ 1 _ rfl; (with_reducible repeat (first | refine blk_drewN ?_ _ | refine blk_drew ?_ | refine blk_alloc ?_ _)); refine blk_put (cs := #[.int .u8 0, .int .u8 0, .int .u8 0, .int .u8 0]) ?_ 0 _ rfl; (with_reducible repeat (first | refine blk_drewN ?_ _ | refine blk_drew ?_ | refine blk_alloc ?_ _)); exact BK337.out) rfl ⟨rfl, by simp⟩)); (case aB => exact (by repeat (first | (with_reducible first | exact HB.out | apply below_alloc | apply pw_below_drewN | apply below_drew1 | refine below_set ?_ GE337.out) | exact HB.out))); (case aF => exact (fun _ _ => trivial)); (case aO => exact (by (with_reducible repeat (first | apply Kd.R_alloc | apply Kd.R_drewN | apply Kd.R_drew)); exact Kd.R_mono (Kd.R_far (p := ⟨gb337, 3, none⟩) (Kd.R_far (p := ⟨gb337, 2, none⟩) (Kd.R_far (p := ⟨gb337, 1, none⟩) (Kd.R_far (p := ⟨gb337, 0, none⟩) (Kd.R_types HO_4.out BK337.out (by decide)) (fun _ hk => hk.2) (.int .u8 t333)) (fun _ hk => hk.2) (.int .u8 t334)) (fun _ hk => hk.2) (.int .u8 t335)) (fun _ hk => hk.2) (.int .u8 t336)) (fun _ hk => trivial))); (case aS => exact (below_size (by repeat (first | (with_reducible first | exact HB.out | apply below_alloc | apply pw_below_drewN | apply below_drew1 | refine below_set ?_ GE337.out) | exact HB.out)))); (case aL => have := LMc18.out; have hlx_ := (show [t333, t334, t335, t336].length = 4 from rfl); omega); intro v340 w22 ho hb hg hat; rw [← Ny339.out] at ho; have n0_ := Aside0.mk (blk_grown (g := gb337) (o := .cells #[.int .u8 t333, .int .u8 t334, .int .u8 t335, .int .u8 t336] 22 (0, 0)) (by (with_reducible repeat (first | refine blk_drewN ?_ _ | refine blk_drew ?_ | refine blk_alloc ?_ _)); refine blk_put (cs := #[.int .u8 t333, .int .u8 t334, .int .u8 t335, .int .u8 0]) ?_ 3 _ rfl; (with_reducible repeat (first | refine blk_drewN ?_ _ | refine blk_drew ?_ | refine blk_alloc ?_ _)); refine blk_put (cs := #[.int .u8 t333, .int .u8 t334, .int .u8 0, .int .u8 0]) ?_ 2 _ rfl; (with_reducible repeat (first | refine blk_drewN ?_ _ | refine blk_drew ?_ | refine blk_alloc ?_ _)); refine blk_put (cs := #[.int .u8 t333, .int .u8 0, .int .u8 0, .int .u8 0]) ?_ 1 _ rfl; (with_reducible repeat (first | refine blk_drewN ?_ _ | refine blk_drew ?_ | refine blk_alloc ?_ _)); refine blk_put (cs := #[.int .u8 0, .int .u8 0, .int .u8 0, .int .u8 0]) ?_ 0 _ rfl; (with_reducible repeat (first | refine blk_drewN ?_ _ | refine blk_drew ?_ | refine blk_alloc ?_ _)); exact BK337.out) hg (Kd.R_ne HO_4.out BK337.out (by decide))); have n1_ := Aside0.mk (hb); have n2_ := Aside0.mk (ho); clear BK337; clear HB; clear HO_4; have BK337 := n0_; have HB := n1_; have HO341 := n2_; clear n0_ n1_ n2_; clear ho hb hg hat))
                go_roundg k1
                case measure => have := HK1.out; omega
                case rel => exact ⟨(y339), (wrap64 (t332 / 2)), (wrap64 (x21_1 + 1)), (by first | rfl | (simp; done) | (simp [*]; done)), (by first | rfl | (simp; done) | (simp [*]; done)), H', ⟨by have := HK1.out; omega⟩, ⟨by (with_reducible repeat (first | apply Kd.R_alloc | apply Kd.R_drewN | apply Kd.R_drew)); exact HO341.out⟩, ⟨by repeat (first | (with_reducible first | exact HB.out | apply below_alloc | apply pw_below_drewN | apply below_drew1 | refine below_set ?_ GE337.out) | exact HB.out)⟩⟩
              · rw [if_neg c18] at H
                exact absurd H (by simp)
          · rw [if_neg c6] at H
            have c6b0 : decide (x21_1 < t320) = false := decide_eq_false c6
            clear c6
            simp only [Option.some.injEq, Prod.mk.injEq] at H
            obtain ⟨rfl, rfl⟩ := H
            go_wp2
            go_ret2
            exact ⟨_, by first | rfl | (simp [errW_none, errW_some] <;> rfl) | (simp [*, errW_none, errW_some] <;> rfl), by (with_reducible repeat (first | apply Kd.R_alloc | apply Kd.R_drewN | apply Kd.R_drew)); exact HO_4.out, by repeat (first | (with_reducible first | exact HB.out | apply below_alloc | apply pw_below_drewN | apply below_drew1) | exact HB.out)⟩
  · replace c3 := Bool.eq_false_iff.mpr c3
    subst c3
    have H1 : (some (([] : List Int), 5)) = some (r1, r2) := by rw [if_neg (show ¬ (false = true) by decide)] at H; exact H
    clear H
    have H := H1
    clear H1
    simp only [Option.some.injEq, Prod.mk.injEq] at H
    obtain ⟨rfl, rfl⟩ := H
    go_enter Tryd.func28, Tryd.ntmps28
    go_wp2_with (first | ((with_reducible refine gate_callee (f := 31) rfl ?_); refine goesL_ (some 12) rfl rfl Tryd.func31 (by kernel_rfl) rfl #[.slice A0 l0.length c0] rfl (by (try simp only [List.map_toArray, List.map_cons, List.map_nil]); first | done | rfl | (simp only [List.length_drop, List.length_take]; rfl)) ?_; (with_reducible refine (bits_Right.calls k _ _ l0 false _ ?side1 ?side2 A2.out).mono ?_); (case side1 => repeat (first | exact HR0.out | (with_reducible refine Kd.C_alloc ?_ _) | (with_reducible refine Kd.C_drewN ?_ _) | (with_reducible refine Kd.C_drew ?_))); (case side2 => exact HC0.out); rintro e w' ⟨rfl, ⟨nd, rfl⟩⟩; refine ⟨_, rfl, ?_⟩))
    go_ret2
    exact ⟨_, by first | rfl | (simp [errW_none, errW_some] <;> rfl) | (simp [*, errW_none, errW_some] <;> rfl), by first | exact Kd.R_nil _ _ _ _ _ | exact Kd.N_nil _ _ _ _ _ | exact Kd.V_nil _ _ _ _ _ | exact Kd.Q_nil _ _ _ _ _ | exact Kd.S_nil _ _ _ _ _, by repeat (first | (with_reducible first | exact HB.out | apply below_alloc | apply pw_below_drewN | apply below_drew1) | exact HB.out)⟩

end Go.Proofs.YtmajbcglpcagoaaDoor.X

-- YtmajbcglpcagoaaDoorX28
namespace Go.Proofs.YtmajbcglpcagoaaDoor.X
open Go.RowKit Go.Proofs.YtmajbcglpcagoaaDoorW.PrintWords Go.Proofs.YtmajbcglpcagoaaDoorW.PrintLast Go.Proofs.YtmajbcglpcagoaaDoorW.PrintMore
attribute [local go_sem] max2_int min2_int max_two min_two max_three min_three max_four min_four   -- for this text's walks alone
set_option linter.unusedVariables false
set_option linter.unusedSimpArgs false

/-! ### trellis_Path: function 14 -/
def trellis_Path.l0 : Nat → List Int → List (S24) → Int → Int → Int → Option ((List (S24)) × Int)
  | 0, _, _, _, _, _ => none
  | k + 1, x0, x6, x7, x22, x23 => if x23 < x22 then (if x23 < (x0.length : Int) then (if 0 ≤ x23 then ((trellis_edge.f x7 (rd x0 x23)).bind fun bt348 => (if bt348.2.2.2.2.2.2.2 = 0 then (if x6.length < 5864062014805 then (trellis_Path.l0 k x0 (x6 ++ [(⟨bt348.1, bt348.2.1, bt348.2.2.1, (⟨bt348.2.2.2.1, bt348.2.2.2.2.1, bt348.2.2.2.2.2.1, bt348.2.2.2.2.2.2.1⟩ : S22)⟩ : S24)]) bt348.2.1 x22 (wrap64 (x23 + 1))) else (none)) else (some (([] : List (S24)), bt348.2.2.2.2.2.2.2)))) else (none)) else ((trellis_edge.f x7 0).bind fun bt360 => (if bt360.2.2.2.2.2.2.2 = 0 then (if x6.length < 5864062014805 then (trellis_Path.l0 k x0 (x6 ++ [(⟨bt360.1, bt360.2.1, bt360.2.2.1, (⟨bt360.2.2.2.1, bt360.2.2.2.2.1, bt360.2.2.2.2.2.1, bt360.2.2.2.2.2.2.1⟩ : S22)⟩ : S24)]) bt360.2.1 x22 (wrap64 (x23 + 1))) else (none)) else (some (([] : List (S24)), bt360.2.2.2.2.2.2.2))))) else (some (x6, 0))
def trellis_Path.f (k : Nat) (l0 : List Int) : Option ((List (S24)) × Int) := (conv_Code.f k l0).bind fun bt342 => (if bt342.2 = 0 then ((conv_Steps.f (l0.length : Int)).bind fun t346 => (trellis_Path.l0 k l0 ([] : List (S24)) 0 t346 0)) else (some (([] : List (S24)), bt342.2)))
theorem trellis_Path.mono_l : ∀ k, (∀ y0 y1 y2 y3 y4, LeO (trellis_Path.l0 k y0 y1 y2 y3 y4) (trellis_Path.l0 (k + 1) y0 y1 y2 y3 y4))
  | 0 => fun _ _ _ _ _ r h => by simp [trellis_Path.l0] at h
  | k + 1 => by
    have ih0 := trellis_Path.mono_l k
    · intro y0 y1 y2 y3 y4
      unfold trellis_Path.l0
      repeat' first
      | (with_reducible exact ih0 _ _ _ _ _)
      | (with_reducible exact conv_Code.mono _ _)
      | (with_reducible exact LeO.refl _)
      | (with_reducible exact LeO.none _)
      | (with_reducible refine LeO.ite ?_ ?_)
      | (with_reducible refine LeO.bind ?_ (fun _ => ?_))
      | exact ih0 _ _ _ _ _
      | exact conv_Code.mono _ _
      | exact LeO.none _
      | refine LeO.ite ?_ ?_
      | refine LeO.bind ?_ (fun _ => ?_)
theorem trellis_Path.mono : ∀ a0 k, LeO (trellis_Path.f k a0) (trellis_Path.f (k + 1) a0) := by
  intro a0 k
  have ih0 := trellis_Path.mono_l k
  unfold trellis_Path.f
  repeat' first
      | (with_reducible exact ih0 _ _ _ _ _)
      | (with_reducible exact conv_Code.mono _ _)
      | (with_reducible exact LeO.refl _)
      | (with_reducible exact LeO.none _)
      | (with_reducible refine LeO.ite ?_ ?_)
      | (with_reducible refine LeO.bind ?_ (fun _ => ?_))
      | exact ih0 _ _ _ _ _
      | exact conv_Code.mono _ _
      | exact LeO.none _
      | refine LeO.ite ?_ ?_
      | refine LeO.bind ?_ (fun _ => ?_)
set_option maxHeartbeats 8000000 in
set_option maxRecDepth 100000 in
theorem trellis_Path.calls (k : Nat) (A0 : Option Addr) (c0 : Nat) (l0 : List Int) (r1 : List (S24)) (r2 : Int) (w : World) (hr0 : Kd.C (Kd.int .u8) w A0 l0.length l0) (hc0 : l0.length ≤ c0) (h : trellis_Path.f k l0 = some (r1, r2)) (hT_ : TP w := by first | assumption | exact TP_of (by assumption : TP _) (by repeat (first | (with_reducible first | apply below_alloc | apply pw_below_drewN | apply below_drew1 | refine below_set ?_ (Aside0.out (by assumption))) | exact Aside0.out (by assumption) | exact Below.refl _ _))) :
    Calls Tryd.prog 14 #[.slice A0 l0.length c0] w fun e w' => ∃ v0_ : Value, e = .returned (.tuple #[v0_, .int .i64 r2]) ∧ Kd.R k24 24 w' w.heap.size (fun _ => True) v0_ r1 ∧ Below w.heap.size w w' := by
  have hu24 := Tryd.underlying24
  have HR0 := Aside0.mk hr0
  have HC0 := Aside0.mk hc0
  clear hr0 hc0
  have HB := Aside0.mk (Below.refl w.heap.size w)
  have H : ((conv_Code.f k l0).bind fun bt342 => (if bt342.2 = 0 then ((conv_Steps.f (l0.length : Int)).bind fun t346 => (trellis_Path.l0 k l0 ([] : List (S24)) 0 t346 0)) else (some (([] : List (S24)), bt342.2)))) = some (r1, r2) := h
  clear h
  replace H := Option.bind_eq_some_iff.mp H
  obtain ⟨⟨t342, t343⟩, A20, H⟩ := H
  replace H : (if t343 = 0 then ((conv_Steps.f (l0.length : Int)).bind fun t346 => (trellis_Path.l0 k l0 ([] : List (S24)) 0 t346 0)) else (some (([] : List (S24)), t343))) = some (r1, r2) := H
  have A2 := Aside0.mk A20
  clear A20
  by_cases c3 : t343 = 0
  · rw [if_pos c3] at H
    have c3b0 : (t343 == 0) = true := beq_iff_eq.mpr c3
    have c3b1 : (t343 != 0) = false := bne_eq_false_iff_eq.mpr c3
    clear c3
    replace H := Option.bind_eq_some_iff.mp H
    obtain ⟨t346, A40, H⟩ := H
    replace H : (trellis_Path.l0 k l0 ([] : List (S24)) 0 t346 0) = some (r1, r2) := H
    have A4 := Aside0.mk A40
    clear A40
    have H' := Aside0.mk H
    clear H
    go_enter Tryd.func14, Tryd.ntmps14
    go_wp2_with (first | ((with_reducible refine gate_callee (f := 28) rfl ?_); refine goesL_ (some 14) rfl rfl Tryd.func28 (by kernel_rfl) rfl #[.slice A0 l0.length c0] rfl (by (try simp only [List.map_toArray, List.map_cons, List.map_nil]); first | done | rfl | (simp only [List.length_drop, List.length_take]; rfl)) ?_; (with_reducible refine (conv_Code.calls k _ _ l0 t342 t343 _ ?side1 ?side2 A2.out).mono ?_); (case side1 => repeat (first | exact HR0.out | (with_reducible refine Kd.C_alloc ?_ _) | (with_reducible refine Kd.C_drewN ?_ _) | (with_reducible refine Kd.C_drew ?_))); (case side2 => exact HC0.out); rintro e w5 ⟨v344, rfl, ho0, hb⟩; refine ⟨_, rfl, ?_⟩; have n0_ := Aside0.mk (Kd.R_lower ho0 (below_size (by repeat (first | (with_reducible first | exact HB.out | apply below_alloc | apply pw_below_drewN | apply below_drew1) | exact HB.out)))); have n1_ := Aside0.mk (below_step (by repeat (first | (with_reducible first | exact HB.out | apply below_alloc | apply pw_below_drewN | apply below_drew1) | exact HB.out)) hb); clear HB; have HO345 := n0_; have HB := n1_; clear n0_ n1_; (try clear hb); (try clear hb2); (try clear hk); (try clear hi); (try clear ho0)) | ((with_reducible refine gate_callee (f := 29) rfl ?_); refine goesL_ (some 22) rfl rfl Tryd.func29 (by kernel_rfl) rfl #[.int .i64 (l0.length : Int)] rfl (by (try simp only [List.map_toArray, List.map_cons, List.map_nil]); first | done | rfl | (simp only [List.length_drop, List.length_take]; rfl)) ?_; (with_reducible refine (conv_Steps.calls (l0.length : Int) t346 _ A4.out).mono ?_); rintro e w' ⟨rfl, ⟨nd, rfl⟩⟩; refine ⟨_, rfl, ?_⟩))
    go_loopg [6, 7, 23] k (fun kq v6 v7 v23 w' => ∃ (x6_1 : List (S24)) (x7_1 : Int) (x23_1 : Int), v7 = .int .i64 x7_1 ∧ v23 = .int .i64 x23_1 ∧ Aside0 (trellis_Path.l0 kq l0 x6_1 x7_1 t346 x23_1 = some (r1, r2)) ∧ Aside0 (kq ≤ k) ∧ Aside0 (Kd.R k24 24 w' w.heap.size (fun _ => True) v6 x6_1) ∧ Aside0 (Below w.heap.size w w'))
    case atStart => exact ⟨(([] : List (S24))), (0), (0), (by first | rfl | (simp; done) | (simp [*]; done)), (by first | rfl | (simp; done) | (simp [*]; done)), H', ⟨Nat.le_refl _⟩, ⟨by first | exact Kd.R_nil _ _ _ _ _ | exact Kd.N_nil _ _ _ _ _ | exact Kd.V_nil _ _ _ _ _ | exact Kd.Q_nil _ _ _ _ _ | exact Kd.S_nil _ _ _ _ _⟩, ⟨by repeat (first | (with_reducible first | exact HB.out | apply below_alloc | apply pw_below_drewN | apply below_drew1) | exact HB.out)⟩⟩
    case round =>
      clear H'
      try clear c1
      try clear c2
      try clear p2
      try clear c3
      try clear c3b0
      try clear c3b1
      obtain ⟨x6_1, x7_1, x23_1, rfl, rfl, HA, HK1, HO_6, HB⟩ := hrel
      cases gk with
      | zero => exact absurd HA.out (by simp [trellis_Path.l0])
      | succ k1 =>
        have H := HA.out
        clear HA
        simp only [trellis_Path.l0] at H
        by_cases c6 : x23_1 < t346
        · rw [if_pos c6] at H
          have c6b0 : decide (x23_1 < t346) = true := decide_eq_true c6
          clear c6
          by_cases c7 : x23_1 < (l0.length : Int)
          · rw [if_pos c7] at H
            have c7b0 : decide (x23_1 < (l0.length : Int)) = true := decide_eq_true c7
            clear c7
            by_cases c8 : 0 ≤ x23_1
            · rw [if_pos c8] at H
              have c8b0 : decide (0 ≤ x23_1) = true := decide_eq_true c8
              clear c8
              replace H := Option.bind_eq_some_iff.mp H
              obtain ⟨⟨t348, t349, t350, t351, t352, t353, t354, t355⟩, A90, H⟩ := H
              replace H : (if t355 = 0 then (if x6_1.length < 5864062014805 then (trellis_Path.l0 k1 l0 (x6_1 ++ [(⟨t348, t349, t350, (⟨t351, t352, t353, t354⟩ : S22)⟩ : S24)]) t349 t346 (wrap64 (x23_1 + 1))) else (none)) else (some (([] : List (S24)), t355))) = some (r1, r2) := H
              have A9 := Aside0.mk A90
              clear A90
              by_cases c10 : t355 = 0
              · rw [if_pos c10] at H
                have c10b0 : (t355 == 0) = true := beq_iff_eq.mpr c10
                have c10b1 : (t355 != 0) = false := bne_eq_false_iff_eq.mpr c10
                clear c10
                by_cases c11 : x6_1.length < 5864062014805
                · rw [if_pos c11] at H
                  have LMc11 := Aside0.mk c11
                  clear c11
                  obtain ⟨y357, hy357⟩ : ∃ y_ : List (S24), y_ = (x6_1 ++ [(⟨t348, t349, t350, (⟨t351, t352, t353, t354⟩ : S22)⟩ : S24)]) := ⟨_, rfl⟩
                  replace H : (trellis_Path.l0 k1 l0 y357 t349 t346 (wrap64 (x23_1 + 1))) = some (r1, r2) := by first | (rw [hy357]; with_reducible exact H) | (have H2_ := (Option.bind_some _ _).symm.trans H; rw [hy357]; with_reducible exact H2_) | (have H2_ := (Option.bind_some _ _).symm.trans H; with_reducible exact H2_) | with_reducible exact H | (rw [hy357]; exact H) | exact H
                  have Ny357 := Aside0.mk hy357
                  clear hy357
                  have H' := Aside0.mk H
                  clear H
                  have p347 : 0 ≤ (x23_1 : Int) := of_decide_eq_true (by first | (with_reducible assumption) | assumption)
                  have q347 : x23_1 < (l0.length : Int) := of_decide_eq_true (by first | (with_reducible assumption) | assumption)
                  obtain ⟨ad347, e347, hx347_0⟩ := Kd.at_int HR0.out x23_1 p347 q347
                  cases e347
                  replace hx347_0 := (HB.out.cell (World.block_lt_of_cell? w _ hx347_0)).trans hx347_0
                  replace p347 := eq_true p347
                  replace q347 := eq_true q347
                  go_wp2_with (first | ((with_reducible refine gate_callee (f := 30) rfl ?_); refine goesL_ (some 37) rfl rfl Tryd.func30 (by kernel_rfl) rfl #[.int .i64 x7_1, .int .u8 (rd l0 x23_1)] rfl (by (try simp only [List.map_toArray, List.map_cons, List.map_nil]); first | done | rfl | (simp only [List.length_drop, List.length_take]; rfl)) ?_; (with_reducible refine (trellis_edge.calls x7_1 (rd l0 x23_1) t348 t349 t350 t351 t352 t353 t354 t355 _ A9.out).mono ?_); rintro e w12 ⟨rfl, hb⟩; refine ⟨_, rfl, ?_⟩; have n0_ := Aside0.mk (Kd.R_below (by (with_reducible repeat (first | apply Kd.R_alloc | apply Kd.R_drewN | apply Kd.R_drew)); exact HO_6.out) hb); have n1_ := Aside0.mk (below_step (by repeat (first | (with_reducible first | exact HB.out | apply below_alloc | apply pw_below_drewN | apply below_drew1) | exact HB.out)) hb); clear HO_6; clear HB; have HO_6 := n0_; have HB := n1_; clear n0_ n1_; (try clear hb); (try clear hb2); (try clear hk); (try clear hi)) | ((with_reducible refine gate_dst (N := 10) rfl ?_); refine box_event ?hg (N := 10) ?hd (cs := #[.int .i64 0, .int .i64 0, .int .u8 0, .int .u8 0, .int .u8 0, .int .u8 0, .int .u8 0]) (t := 24) ?hr ?_; (case hd => rfl); (case hg => rfl); (case hr => first | (go_simp; done) | (go_simp; rfl)); intro gb356 hg w13 hbox hb; have n0_ := Aside0.mk (Kd.R_below (Kd.R_elderB (by (with_reducible repeat (first | apply Kd.R_alloc | apply Kd.R_drewN | apply Kd.R_drew)); exact HO_6.out) gb356 (Nat.le_of_eq hg.symm)) hb); have n1_ := Aside0.mk (below_step (by repeat (first | (with_reducible first | exact HB.out | apply below_alloc | apply pw_below_drewN | apply below_drew1) | exact HB.out)) hb); have n2_ := Aside0.mk (hbox); have n3_ := Aside0.mk ((by rw [hg]; exact (below_size (by repeat (first | (with_reducible first | exact HB.out | apply below_alloc | apply pw_below_drewN | apply below_drew1) | exact HB.out))) : w.heap.size ≤ gb356)); have n4_ := Aside0.mk ((by rw [hg]; exact (below_size (by repeat (first | (with_reducible first | exact HB.out | apply below_alloc | apply pw_below_drewN | apply below_drew1) | exact HB.out))) : w.heap.size ≤ gb356)); clear HO_6; clear HB; have HO_6 := n0_; have HB := n1_; have BK356 := n2_; have GW356 := n3_; have GE356 := n4_; clear n0_ n1_ n2_ n3_ n4_; clear hb hbox hg; have hcz14_0 : w13.cell? ⟨gb356, 0, none⟩ = some (.int .i64 0) := (blk_cell BK356.out 0).trans rfl; have hcz14_1 : w13.cell? ⟨gb356, 1, none⟩ = some (.int .i64 0) := (blk_cell BK356.out 1).trans rfl; have hcz14_2 : w13.cell? ⟨gb356, 2, none⟩ = some (.int .u8 0) := (blk_cell BK356.out 2).trans rfl; have hcz14_3 : w13.cell? ⟨gb356, 3, none⟩ = some (.int .u8 0) := (blk_cell BK356.out 3).trans rfl; have hcz14_4 : w13.cell? ⟨gb356, 4, none⟩ = some (.int .u8 0) := (blk_cell BK356.out 4).trans rfl; have hcz14_5 : w13.cell? ⟨gb356, 5, none⟩ = some (.int .u8 0) := (blk_cell BK356.out 5).trans rfl; have hcz14_6 : w13.cell? ⟨gb356, 6, none⟩ = some (.int .u8 0) := (blk_cell BK356.out 6).trans rfl; have hfz14_0 := blk_frozen BK356.out 0; have hfz14_1 := blk_frozen BK356.out 1; have hfz14_2 := blk_frozen BK356.out 2; have hfz14_3 := blk_frozen BK356.out 3; have hfz14_4 := blk_frozen BK356.out 4; have hfz14_5 := blk_frozen BK356.out 5; have hfz14_6 := blk_frozen BK356.out 6) | ((with_reducible refine gate_builtin (b := .append) (xs := #[.tmp 43, .tmp 45]) rfl ?_); at_builtin; refine Kd.R_append k24 (w0 := w) w.heap.size rfl (.tmp 43) (.tmp 45) 36 24 (.agg #[(.int .i64 0), (.int .i64 0), (.int .u8 0), (.int .u8 0), (.int .u8 0), (.int .u8 0), (.int .u8 0)]) 24 rfl Tryd.underlying36 info24 rfl (by decide) (by omega) u6 x6_1 (⟨t348, t349, t350, (⟨t351, t352, t353, t354⟩ : S22)⟩ : S24) [.int .i64 t348, .int .i64 t349, .int .u8 t350, .int .u8 t351, .int .u8 t352, .int .u8 t353, .int .u8 t354] (fun k_ => k_ ≠ gb356) (fun _ => False) rfl (by first | (go_simp; done) | (go_simp; rfl)) ?aP (fun _ hk => hk.elim) ?aF ?aO ?aB ?aS ?aL ?_; (case aP => exact k24_mkM _ _ _ (⟨t348, t349, t350, (⟨t351, t352, t353, t354⟩ : S22)⟩ : S24)); (case aB => exact (by repeat (first | (with_reducible first | exact HB.out | apply below_alloc | apply pw_below_drewN | apply below_drew1 | refine below_set ?_ GE356.out) | exact HB.out))); (case aF => exact (fun k_ hk => Kd.freshB (g := gb356) (o := .cells #[.int .i64 t348, .int .i64 t349, .int .u8 t350, .int .u8 t351, .int .u8 t352, .int .u8 t353, .int .u8 t354] 24 (0, 0)) (by (with_reducible repeat (first | refine blk_drewN ?_ _ | refine blk_drew ?_ | refine blk_alloc ?_ _)); refine blk_put (cs := #[.int .i64 t348, .int .i64 t349, .int .u8 t350, .int .u8 t351, .int .u8 t352, .int .u8 t353, .int .u8 0]) ?_ 6 _ rfl; (with_reducible repeat (first | refine blk_drewN ?_ _ | refine blk_drew ?_ | refine blk_alloc ?_ _)); refine blk_put (cs := #[.int .i64 t348, .int .i64 t349, .int .u8 t350, .int .u8 t351, .int .u8 t352, .int .u8 0, .int .u8 0]) ?_ 5 _ rfl; (with_reducible repeat (first | refine blk_drewN ?_ _ | refine blk_drew ?_ | refine blk_alloc ?_ _)); refine blk_put (cs := #[.int .i64 t348, .int .i64 t349, .int .u8 t350, .int .u8 t351, .int .u8 0, .int .u8 0, .int .u8 0]) ?_ 4 _ rfl; (with_reducible repeat (first | refine blk_drewN ?_ _ | refine blk_drew ?_ | refine blk_alloc ?_ _)); refine blk_put (cs := #[.int .i64 t348, .int .i64 t349, .int .u8 t350, .int .u8 0, .int .u8 0, .int .u8 0, .int .u8 0]) ?_ 3 _ rfl; (with_reducible repeat (first | refine blk_drewN ?_ _ | refine blk_drew ?_ | refine blk_alloc ?_ _)); refine blk_put (cs := #[.int .i64 t348, .int .i64 t349, .int .u8 0, .int .u8 0, .int .u8 0, .int .u8 0, .int .u8 0]) ?_ 2 _ rfl; (with_reducible repeat (first | refine blk_drewN ?_ _ | refine blk_drew ?_ | refine blk_alloc ?_ _)); refine blk_put (cs := #[.int .i64 t348, .int .i64 0, .int .u8 0, .int .u8 0, .int .u8 0, .int .u8 0, .int .u8 0]) ?_ 1 _ rfl; (with_reducible repeat (first | refine blk_drewN ?_ _ | refine blk_drew ?_ | refine blk_alloc ?_ _)); refine blk_put (cs := #[.int .i64 0, .int .i64 0, .int .u8 0, .int .u8 0, .int .u8 0, .int .u8 0, .int .u8 0]) ?_ 0 _ rfl; (with_reducible repeat (first | refine blk_drewN ?_ _ | refine blk_drew ?_ | refine blk_alloc ?_ _)); exact BK356.out) k_ hk)); (case aO => exact (by (with_reducible repeat (first | apply Kd.R_alloc | apply Kd.R_drewN | apply Kd.R_drew)); exact Kd.R_mono (Kd.R_far (p := ⟨gb356, 6, none⟩) (Kd.R_far (p := ⟨gb356, 5, none⟩) (Kd.R_far (p := ⟨gb356, 4, none⟩) (Kd.R_far (p := ⟨gb356, 3, none⟩) (Kd.R_far (p := ⟨gb356, 2, none⟩) (Kd.R_far (p := ⟨gb356, 1, none⟩) (Kd.R_far (p := ⟨gb356, 0, none⟩) (Kd.R_mono HO_6.out (fun k_ hk => (⟨hk, hk.2⟩ : _ ∧ k_ ≠ gb356))) (fun _ hk => hk.2) (.int .i64 t348)) (fun _ hk => hk.2) (.int .i64 t349)) (fun _ hk => hk.2) (.int .u8 t350)) (fun _ hk => hk.2) (.int .u8 t351)) (fun _ hk => hk.2) (.int .u8 t352)) (fun _ hk => hk.2) (.int .u8 t353)) (fun _ hk => hk.2) (.int .u8 t354)) (fun _ hk => hk.1.2))); (case aS => exact (below_size (by repeat (first | (with_reducible first | exact HB.out | apply below_alloc | apply pw_below_drewN | apply below_drew1 | refine below_set ?_ GE356.out) | exact HB.out)))); (case aL => have := LMc11.out; omega); intro v358 w15 ho hb hg hat; rw [← Ny357.out] at ho; have n0_ := Aside0.mk (blk_grown (g := gb356) (o := .cells #[.int .i64 t348, .int .i64 t349, .int .u8 t350, .int .u8 t351, .int .u8 t352, .int .u8 t353, .int .u8 t354] 24 (0, 0)) (by (with_reducible repeat (first | refine blk_drewN ?_ _ | refine blk_drew ?_ | refine blk_alloc ?_ _)); refine blk_put (cs := #[.int .i64 t348, .int .i64 t349, .int .u8 t350, .int .u8 t351, .int .u8 t352, .int .u8 t353, .int .u8 0]) ?_ 6 _ rfl; (with_reducible repeat (first | refine blk_drewN ?_ _ | refine blk_drew ?_ | refine blk_alloc ?_ _)); refine blk_put (cs := #[.int .i64 t348, .int .i64 t349, .int .u8 t350, .int .u8 t351, .int .u8 t352, .int .u8 0, .int .u8 0]) ?_ 5 _ rfl; (with_reducible repeat (first | refine blk_drewN ?_ _ | refine blk_drew ?_ | refine blk_alloc ?_ _)); refine blk_put (cs := #[.int .i64 t348, .int .i64 t349, .int .u8 t350, .int .u8 t351, .int .u8 0, .int .u8 0, .int .u8 0]) ?_ 4 _ rfl; (with_reducible repeat (first | refine blk_drewN ?_ _ | refine blk_drew ?_ | refine blk_alloc ?_ _)); refine blk_put (cs := #[.int .i64 t348, .int .i64 t349, .int .u8 t350, .int .u8 0, .int .u8 0, .int .u8 0, .int .u8 0]) ?_ 3 _ rfl; (with_reducible repeat (first | refine blk_drewN ?_ _ | refine blk_drew ?_ | refine blk_alloc ?_ _)); refine blk_put (cs := #[.int .i64 t348, .int .i64 t349, .int .u8 0, .int .u8 0, .int .u8 0, .int .u8 0, .int .u8 0]) ?_ 2 _ rfl; (with_reducible repeat (first | refine blk_drewN ?_ _ | refine blk_drew ?_ | refine blk_alloc ?_ _)); refine blk_put (cs := #[.int .i64 t348, .int .i64 0, .int .u8 0, .int .u8 0, .int .u8 0, .int .u8 0, .int .u8 0]) ?_ 1 _ rfl; (with_reducible repeat (first | refine blk_drewN ?_ _ | refine blk_drew ?_ | refine blk_alloc ?_ _)); refine blk_put (cs := #[.int .i64 0, .int .i64 0, .int .u8 0, .int .u8 0, .int .u8 0, .int .u8 0, .int .u8 0]) ?_ 0 _ rfl; (with_reducible repeat (first | refine blk_drewN ?_ _ | refine blk_drew ?_ | refine blk_alloc ?_ _)); exact BK356.out) hg (Kd.R_away HO_6.out (fun _ hk => hk.2))); have n1_ := Aside0.mk (hb); have n2_ := Aside0.mk (ho); clear BK356; clear HB; clear HO_6; have BK356 := n0_; have HB := n1_; have HO359 := n2_; clear n0_ n1_ n2_; clear ho hb hg hat; have hcz16_0 : w15.cell? ⟨gb356, 0, none⟩ = some (.int .i64 t348) := (blk_cell BK356.out 0).trans rfl; have hcz16_1 : w15.cell? ⟨gb356, 1, none⟩ = some (.int .i64 t349) := (blk_cell BK356.out 1).trans rfl; have hcz16_2 : w15.cell? ⟨gb356, 2, none⟩ = some (.int .u8 t350) := (blk_cell BK356.out 2).trans rfl; have hcz16_3 : w15.cell? ⟨gb356, 3, none⟩ = some (.int .u8 t351) := (blk_cell BK356.out 3).trans rfl; have hcz16_4 : w15.cell? ⟨gb356, 4, none⟩ = some (.int .u8 t352) := (blk_cell BK356.out 4).trans rfl; have hcz16_5 : w15.cell? ⟨gb356, 5, none⟩ = some (.int .u8 t353) := (blk_cell BK356.out 5).trans rfl; have hcz16_6 : w15.cell? ⟨gb356, 6, none⟩ = some (.int .u8 t354) := (blk_cell BK356.out 6).trans rfl; have hfz16_0 := blk_frozen BK356.out 0; have hfz16_1 := blk_frozen BK356.out 1; have hfz16_2 := blk_frozen BK356.out 2; have hfz16_3 := blk_frozen BK356.out 3; have hfz16_4 := blk_frozen BK356.out 4; have hfz16_5 := blk_frozen BK356.out 5; have hfz16_6 := blk_frozen BK356.out 6))
                  go_roundg k1
                  case measure => have := HK1.out; omega
                  case rel => exact ⟨(y357), (t349), (wrap64 (x23_1 + 1)), (by first | rfl | (simp; done) | (simp [*]; done)), (by first | rfl | (simp; done) | (simp [*]; done)), H', ⟨by have := HK1.out; omega⟩, ⟨by (with_reducible repeat (first | apply Kd.R_alloc | apply Kd.R_drewN | apply Kd.R_drew)); exact Kd.R_mono HO359.out (fun _ hk => trivial)⟩, ⟨by repeat (first | (with_reducible first | exact HB.out | apply below_alloc | apply pw_below_drewN | apply below_drew1 | refine below_set ?_ GE356.out) | exact HB.out)⟩⟩
                · rw [if_neg c11] at H
                  exact absurd H (by simp)
              · rw [if_neg c10] at H
                have c10b0 : (t355 == 0) = false := beq_eq_false_iff_ne.mpr c10
                have c10b1 : (t355 != 0) = true := bne_iff_ne.mpr c10
                simp only [Option.some.injEq, Prod.mk.injEq] at H
                obtain ⟨rfl, rfl⟩ := H
                have p347 : 0 ≤ (x23_1 : Int) := of_decide_eq_true (by first | (with_reducible assumption) | assumption)
                have q347 : x23_1 < (l0.length : Int) := of_decide_eq_true (by first | (with_reducible assumption) | assumption)
                obtain ⟨ad347, e347, hx347_0⟩ := Kd.at_int HR0.out x23_1 p347 q347
                cases e347
                replace hx347_0 := (HB.out.cell (World.block_lt_of_cell? w _ hx347_0)).trans hx347_0
                replace p347 := eq_true p347
                replace q347 := eq_true q347
                go_wp2_with (first | ((with_reducible refine gate_callee (f := 30) rfl ?_); refine goesL_ (some 37) rfl rfl Tryd.func30 (by kernel_rfl) rfl #[.int .i64 x7_1, .int .u8 (rd l0 x23_1)] rfl (by (try simp only [List.map_toArray, List.map_cons, List.map_nil]); first | done | rfl | (simp only [List.length_drop, List.length_take]; rfl)) ?_; (with_reducible refine (trellis_edge.calls x7_1 (rd l0 x23_1) t348 t349 t350 t351 t352 t353 t354 t355 _ A9.out).mono ?_); rintro e w17 ⟨rfl, hb⟩; refine ⟨_, rfl, ?_⟩; have n0_ := Aside0.mk (Kd.R_below (by (with_reducible repeat (first | apply Kd.R_alloc | apply Kd.R_drewN | apply Kd.R_drew)); exact HO_6.out) hb); have n1_ := Aside0.mk (below_step (by repeat (first | (with_reducible first | exact HB.out | apply below_alloc | apply pw_below_drewN | apply below_drew1) | exact HB.out)) hb); clear HO_6; clear HB; have HO_6 := n0_; have HB := n1_; clear n0_ n1_; (try clear hb); (try clear hb2); (try clear hk); (try clear hi)) | ((with_reducible refine gate_dst (N := 10) rfl ?_); refine box_event ?hg (N := 10) ?hd (cs := #[.int .i64 0, .int .i64 0, .int .u8 0, .int .u8 0, .int .u8 0, .int .u8 0, .int .u8 0]) (t := 24) ?hr ?_; (case hd => rfl); (case hg => rfl); (case hr => first | (go_simp; done) | (go_simp; rfl)); intro gb356 hg w18 hbox hb; have n0_ := Aside0.mk (Kd.R_below (Kd.R_elderB (by (with_reducible repeat (first | apply Kd.R_alloc | apply Kd.R_drewN | apply Kd.R_drew)); exact HO_6.out) gb356 (Nat.le_of_eq hg.symm)) hb); have n1_ := Aside0.mk (below_step (by repeat (first | (with_reducible first | exact HB.out | apply below_alloc | apply pw_below_drewN | apply below_drew1) | exact HB.out)) hb); have n2_ := Aside0.mk (hbox); have n3_ := Aside0.mk ((by rw [hg]; exact (below_size (by repeat (first | (with_reducible first | exact HB.out | apply below_alloc | apply pw_below_drewN | apply below_drew1) | exact HB.out))) : w.heap.size ≤ gb356)); have n4_ := Aside0.mk ((by rw [hg]; exact (below_size (by repeat (first | (with_reducible first | exact HB.out | apply below_alloc | apply pw_below_drewN | apply below_drew1) | exact HB.out))) : w.heap.size ≤ gb356)); clear HO_6; clear HB; have HO_6 := n0_; have HB := n1_; have BK356 := n2_; have GW356 := n3_; have GE356 := n4_; clear n0_ n1_ n2_ n3_ n4_; clear hb hbox hg; have hcz19_0 : w18.cell? ⟨gb356, 0, none⟩ = some (.int .i64 0) := (blk_cell BK356.out 0).trans rfl; have hcz19_1 : w18.cell? ⟨gb356, 1, none⟩ = some (.int .i64 0) := (blk_cell BK356.out 1).trans rfl; have hcz19_2 : w18.cell? ⟨gb356, 2, none⟩ = some (.int .u8 0) := (blk_cell BK356.out 2).trans rfl; have hcz19_3 : w18.cell? ⟨gb356, 3, none⟩ = some (.int .u8 0) := (blk_cell BK356.out 3).trans rfl; have hcz19_4 : w18.cell? ⟨gb356, 4, none⟩ = some (.int .u8 0) := (blk_cell BK356.out 4).trans rfl; have hcz19_5 : w18.cell? ⟨gb356, 5, none⟩ = some (.int .u8 0) := (blk_cell BK356.out 5).trans rfl; have hcz19_6 : w18.cell? ⟨gb356, 6, none⟩ = some (.int .u8 0) := (blk_cell BK356.out 6).trans rfl; have hfz19_0 := blk_frozen BK356.out 0; have hfz19_1 := blk_frozen BK356.out 1; have hfz19_2 := blk_frozen BK356.out 2; have hfz19_3 := blk_frozen BK356.out 3; have hfz19_4 := blk_frozen BK356.out 4; have hfz19_5 := blk_frozen BK356.out 5; have hfz19_6 := blk_frozen BK356.out 6))
                go_ret2
                exact ⟨_, by first | rfl | (simp [errW_none, errW_some] <;> rfl) | (simp [*, errW_none, errW_some] <;> rfl), by first | exact Kd.R_nil _ _ _ _ _ | exact Kd.N_nil _ _ _ _ _ | exact Kd.V_nil _ _ _ _ _ | exact Kd.Q_nil _ _ _ _ _ | exact Kd.S_nil _ _ _ _ _, by repeat (first | (with_reducible first | exact HB.out | apply below_alloc | apply pw_below_drewN | apply below_drew1 | refine below_set ?_ GE356.out) | exact HB.out)⟩
            · rw [if_neg c8] at H
              exact absurd H (by simp)
          · rw [if_neg c7] at H
            have c7b0 : decide (x23_1 < (l0.length : Int)) = false := decide_eq_false c7
            clear c7
            replace H := Option.bind_eq_some_iff.mp H
            obtain ⟨⟨t360, t361, t362, t363, t364, t365, t366, t367⟩, A200, H⟩ := H
            replace H : (if t367 = 0 then (if x6_1.length < 5864062014805 then (trellis_Path.l0 k1 l0 (x6_1 ++ [(⟨t360, t361, t362, (⟨t363, t364, t365, t366⟩ : S22)⟩ : S24)]) t361 t346 (wrap64 (x23_1 + 1))) else (none)) else (some (([] : List (S24)), t367))) = some (r1, r2) := H
            have A20 := Aside0.mk A200
            clear A200
            by_cases c21 : t367 = 0
            · rw [if_pos c21] at H
              have c21b0 : (t367 == 0) = true := beq_iff_eq.mpr c21
              have c21b1 : (t367 != 0) = false := bne_eq_false_iff_eq.mpr c21
              clear c21
              by_cases c22 : x6_1.length < 5864062014805
              · rw [if_pos c22] at H
                have LMc22 := Aside0.mk c22
                clear c22
                obtain ⟨y369, hy369⟩ : ∃ y_ : List (S24), y_ = (x6_1 ++ [(⟨t360, t361, t362, (⟨t363, t364, t365, t366⟩ : S22)⟩ : S24)]) := ⟨_, rfl⟩
                replace H : (trellis_Path.l0 k1 l0 y369 t361 t346 (wrap64 (x23_1 + 1))) = some (r1, r2) := by first | (rw [hy369]; with_reducible exact H) | (have H2_ := (Option.bind_some _ _).symm.trans H; rw [hy369]; with_reducible exact H2_) | (have H2_ := (Option.bind_some _ _).symm.trans H; with_reducible exact H2_) | with_reducible exact H | (rw [hy369]; exact H) | exact H
                have Ny369 := Aside0.mk hy369
                clear hy369
                have H' := Aside0.mk H
                clear H
                go_wp2_with (first | ((with_reducible refine gate_callee (f := 30) rfl ?_); refine goesL_ (some 37) rfl rfl Tryd.func30 (by kernel_rfl) rfl #[.int .i64 x7_1, .int .u8 0] rfl (by (try simp only [List.map_toArray, List.map_cons, List.map_nil]); first | done | rfl | (simp only [List.length_drop, List.length_take]; rfl)) ?_; (with_reducible refine (trellis_edge.calls x7_1 0 t360 t361 t362 t363 t364 t365 t366 t367 _ A20.out).mono ?_); rintro e w23 ⟨rfl, hb⟩; refine ⟨_, rfl, ?_⟩; have n0_ := Aside0.mk (Kd.R_below (by (with_reducible repeat (first | apply Kd.R_alloc | apply Kd.R_drewN | apply Kd.R_drew)); exact HO_6.out) hb); have n1_ := Aside0.mk (below_step (by repeat (first | (with_reducible first | exact HB.out | apply below_alloc | apply pw_below_drewN | apply below_drew1) | exact HB.out)) hb); clear HO_6; clear HB; have HO_6 := n0_; have HB := n1_; clear n0_ n1_; (try clear hb); (try clear hb2); (try clear hk); (try clear hi)) | ((with_reducible refine gate_dst (N := 10) rfl ?_); refine box_event ?hg (N := 10) ?hd (cs := #[.int .i64 0, .int .i64 0, .int .u8 0, .int .u8 0, .int .u8 0, .int .u8 0, .int .u8 0]) (t := 24) ?hr ?_; (case hd => rfl); (case hg => rfl); (case hr => first | (go_simp; done) | (go_simp; rfl)); intro gb368 hg w24 hbox hb; have n0_ := Aside0.mk (Kd.R_below (Kd.R_elderB (by (with_reducible repeat (first | apply Kd.R_alloc | apply Kd.R_drewN | apply Kd.R_drew)); exact HO_6.out) gb368 (Nat.le_of_eq hg.symm)) hb); have n1_ := Aside0.mk (below_step (by repeat (first | (with_reducible first | exact HB.out | apply below_alloc | apply pw_below_drewN | apply below_drew1) | exact HB.out)) hb); have n2_ := Aside0.mk (hbox); have n3_ := Aside0.mk ((by rw [hg]; exact (below_size (by repeat (first | (with_reducible first | exact HB.out | apply below_alloc | apply pw_below_drewN | apply below_drew1) | exact HB.out))) : w.heap.size ≤ gb368)); have n4_ := Aside0.mk ((by rw [hg]; exact (below_size (by repeat (first | (with_reducible first | exact HB.out | apply below_alloc | apply pw_below_drewN | apply below_drew1) | exact HB.out))) : w.heap.size ≤ gb368)); clear HO_6; clear HB; have HO_6 := n0_; have HB := n1_; have BK368 := n2_; have GW368 := n3_; have GE368 := n4_; clear n0_ n1_ n2_ n3_ n4_; clear hb hbox hg; have hcz25_0 : w24.cell? ⟨gb368, 0, none⟩ = some (.int .i64 0) := (blk_cell BK368.out 0).trans rfl; have hcz25_1 : w24.cell? ⟨gb368, 1, none⟩ = some (.int .i64 0) := (blk_cell BK368.out 1).trans rfl; have hcz25_2 : w24.cell? ⟨gb368, 2, none⟩ = some (.int .u8 0) := (blk_cell BK368.out 2).trans rfl; have hcz25_3 : w24.cell? ⟨gb368, 3, none⟩ = some (.int .u8 0) := (blk_cell BK368.out 3).trans rfl; have hcz25_4 : w24.cell? ⟨gb368, 4, none⟩ = some (.int .u8 0) := (blk_cell BK368.out 4).trans rfl; have hcz25_5 : w24.cell? ⟨gb368, 5, none⟩ = some (.int .u8 0) := (blk_cell BK368.out 5).trans rfl; have hcz25_6 : w24.cell? ⟨gb368, 6, none⟩ = some (.int .u8 0) := (blk_cell BK368.out 6).trans rfl; have hfz25_0 := blk_frozen BK368.out 0; have hfz25_1 := blk_frozen BK368.out 1; have hfz25_2 := blk_frozen BK368.out 2; have hfz25_3 := blk_frozen BK368.out 3; have hfz25_4 := blk_frozen BK368.out 4; have hfz25_5 := blk_frozen BK368.out 5; have hfz25_6 := blk_frozen BK368.out 6) | ((with_reducible refine gate_builtin (b := .append) (xs := #[.tmp 43, .tmp 45]) rfl ?_); at_builtin; refine Kd.R_append k24 (w0 := w) w.heap.size rfl (.tmp 43) (.tmp 45) 36 24 (.agg #[(.int .i64 0), (.int .i64 0), (.int .u8 0), (.int .u8 0), (.int .u8 0), (.int .u8 0), (.int .u8 0)]) 24 rfl Tryd.underlying36 info24 rfl (by decide) (by omega) u6 x6_1 (⟨t360, t361, t362, (⟨t363, t364, t365, t366⟩ : S22)⟩ : S24) [.int .i64 t360, .int .i64 t361, .int .u8 t362, .int .u8 t363, .int .u8 t364, .int .u8 t365, .int .u8 t366] (fun k_ => k_ ≠ gb368) (fun _ => False) rfl (by first | (go_simp; done) | (go_simp; rfl)) ?aP (fun _ hk => hk.elim) ?aF ?aO ?aB ?aS ?aL ?_; (case aP => exact k24_mkM _ _ _ (⟨t360, t361, t362, (⟨t363, t364, t365, t366⟩ : S22)⟩ : S24)); (case aB => exact (by repeat (first | (with_reducible first | exact HB.out | apply below_alloc | apply pw_below_drewN | apply below_drew1 | refine below_set ?_ GE368.out) | exact HB.out))); (case aF => exact (fun k_ hk => Kd.freshB (g := gb368) (o := .cells #[.int .i64 t360, .int .i64 t361, .int .u8 t362, .int .u8 t363, .int .u8 t364, .int .u8 t365, .int .u8 t366] 24 (0, 0)) (by (with_reducible repeat (first | refine blk_drewN ?_ _ | refine blk_drew ?_ | refine blk_alloc ?_ _)); refine blk_put (cs := #[.int .i64 t360, .int .i64 t361, .int .u8 t362, .int .u8 t363, .int .u8 t364, .int .u8 t365, .int .u8 0]) ?_ 6 _ rfl; (with_reducible repeat (first | refine blk_drewN ?_ _ | refine blk_drew ?_ | refine blk_alloc ?_ _)); refine blk_put (cs := #[.int .i64 t360, .int .i64 t361, .int .u8 t362, .int .u8 t363, .int .u8 t364, .int .u8 0, .int .u8 0]) ?_ 5 _ rfl; (with_reducible repeat (first | refine blk_drewN ?_ _ | refine blk_drew ?_ | refine blk_alloc ?_ _)); refine blk_put (cs := #[.int .i64 t360, .int .i64 t361, .int .u8 t362, .int .u8 t363, .int .u8 0, .int .u8 0, .int .u8 0]) ?_ 4 _ rfl; (with_reducible repeat (first | refine blk_drewN ?_ _ | refine blk_drew ?_ | refine blk_alloc ?_ _)); refine blk_put (cs := #[.int .i64 t360, .int .i64 t361, .int .u8 t362, .int .u8 0, .int .u8 0, .int .u8 0, .int .u8 0]) ?_ 3 _ rfl; (with_reducible repeat (first | refine blk_drewN ?_ _ | refine blk_drew ?_ | refine blk_alloc ?_ _)); refine blk_put (cs := #[.int .i64 t360, .int .i64 t361, .int .u8 0, .int .u8 0, .int .u8 0, .int .u8 0, .int .u8 0]) ?_ 2 _ rfl; (with_reducible repeat (first | refine blk_drewN ?_ _ | refine blk_drew ?_ | refine blk_alloc ?_ _)); refine blk_put (cs := #[.int .i64 t360, .int .i64 0, .int .u8 0, .int .u8 0, .int .u8 0, .int .u8 0, .int .u8 0]) ?_ 1 _ rfl; (with_reducible repeat (first | refine blk_drewN ?_ _ | refine blk_drew ?_ | refine blk_alloc ?_ _)); refine blk_put (cs := #[.int .i64 0, .int .i64 0, .int .u8 0, .int .u8 0, .int .u8 0, .int .u8 0, .int .u8 0]) ?_ 0 _ rfl; (with_reducible repeat (first | refine blk_drewN ?_ _ | refine blk_drew ?_ | refine blk_alloc ?_ _)); exact BK368.out) k_ hk)); (case aO => exact (by (with_reducible repeat (first | apply Kd.R_alloc | apply Kd.R_drewN | apply Kd.R_drew)); exact Kd.R_mono (Kd.R_far (p := ⟨gb368, 6, none⟩) (Kd.R_far (p := ⟨gb368, 5, none⟩) (Kd.R_far (p := ⟨gb368, 4, none⟩) (Kd.R_far (p := ⟨gb368, 3, none⟩) (Kd.R_far (p := ⟨gb368, 2, none⟩) (Kd.R_far (p := ⟨gb368, 1, none⟩) (Kd.R_far (p := ⟨gb368, 0, none⟩) (Kd.R_mono HO_6.out (fun k_ hk => (⟨hk, hk.2⟩ : _ ∧ k_ ≠ gb368))) (fun _ hk => hk.2) (.int .i64 t360)) (fun _ hk => hk.2) (.int .i64 t361)) (fun _ hk => hk.2) (.int .u8 t362)) (fun _ hk => hk.2) (.int .u8 t363)) (fun _ hk => hk.2) (.int .u8 t364)) (fun _ hk => hk.2) (.int .u8 t365)) (fun _ hk => hk.2) (.int .u8 t366)) (fun _ hk => hk.1.2))); (case aS => exact (below_size (by repeat (first | (with_reducible first | exact HB.out | apply below_alloc | apply pw_below_drewN | apply below_drew1 | refine below_set ?_ GE368.out) | exact HB.out)))); (case aL => have := LMc22.out; omega); intro v370 w26 ho hb hg hat; rw [← Ny369.out] at ho; have n0_ := Aside0.mk (blk_grown (g := gb368) (o := .cells #[.int .i64 t360, .int .i64 t361, .int .u8 t362, .int .u8 t363, .int .u8 t364, .int .u8 t365, .int .u8 t366] 24 (0, 0)) (by (with_reducible repeat (first | refine blk_drewN ?_ _ | refine blk_drew ?_ | refine blk_alloc ?_ _)); refine blk_put (cs := #[.int .i64 t360, .int .i64 t361, .int .u8 t362, .int .u8 t363, .int .u8 t364, .int .u8 t365, .int .u8 0]) ?_ 6 _ rfl; (with_reducible repeat (first | refine blk_drewN ?_ _ | refine blk_drew ?_ | refine blk_alloc ?_ _)); refine blk_put (cs := #[.int .i64 t360, .int .i64 t361, .int .u8 t362, .int .u8 t363, .int .u8 t364, .int .u8 0, .int .u8 0]) ?_ 5 _ rfl; (with_reducible repeat (first | refine blk_drewN ?_ _ | refine blk_drew ?_ | refine blk_alloc ?_ _)); refine blk_put (cs := #[.int .i64 t360, .int .i64 t361, .int .u8 t362, .int .u8 t363, .int .u8 0, .int .u8 0, .int .u8 0]) ?_ 4 _ rfl; (with_reducible repeat (first | refine blk_drewN ?_ _ | refine blk_drew ?_ | refine blk_alloc ?_ _)); refine blk_put (cs := #[.int .i64 t360, .int .i64 t361, .int .u8 t362, .int .u8 0, .int .u8 0, .int .u8 0, .int .u8 0]) ?_ 3 _ rfl; (with_reducible repeat (first | refine blk_drewN ?_ _ | refine blk_drew ?_ | refine blk_alloc ?_ _)); refine blk_put (cs := #[.int .i64 t360, .int .i64 t361, .int .u8 0, .int .u8 0, .int .u8 0, .int .u8 0, .int .u8 0]) ?_ 2 _ rfl; (with_reducible repeat (first | refine blk_drewN ?_ _ | refine blk_drew ?_ | refine blk_alloc ?_ _)); refine blk_put (cs := #[.int .i64 t360, .int .i64 0, .int .u8 0, .int .u8 0, .int .u8 0, .int .u8 0, .int .u8 0]) ?_ 1 _ rfl; (with_reducible repeat (first | refine blk_drewN ?_ _ | refine blk_drew ?_ | refine blk_alloc ?_ _)); refine blk_put (cs := #[.int .i64 0, .int .i64 0, .int .u8 0, .int .u8 0, .int .u8 0, .int .u8 0, .int .u8 0]) ?_ 0 _ rfl; (with_reducible repeat (first | refine blk_drewN ?_ _ | refine blk_drew ?_ | refine blk_alloc ?_ _)); exact BK368.out) hg (Kd.R_away HO_6.out (fun _ hk => hk.2))); have n1_ := Aside0.mk (hb); have n2_ := Aside0.mk (ho); clear BK368; clear HB; clear HO_6; have BK368 := n0_; have HB := n1_; have HO371 := n2_; clear n0_ n1_ n2_; clear ho hb hg hat; have hcz27_0 : w26.cell? ⟨gb368, 0, none⟩ = some (.int .i64 t360) := (blk_cell BK368.out 0).trans rfl; have hcz27_1 : w26.cell? ⟨gb368, 1, none⟩ = some (.int .i64 t361) := (blk_cell BK368.out 1).trans rfl; have hcz27_2 : w26.cell? ⟨gb368, 2, none⟩ = some (.int .u8 t362) := (blk_cell BK368.out 2).trans rfl; have hcz27_3 : w26.cell? ⟨gb368, 3, none⟩ = some (.int .u8 t363) := (blk_cell BK368.out 3).trans rfl; have hcz27_4 : w26.cell? ⟨gb368, 4, none⟩ = some (.int .u8 t364) := (blk_cell BK368.out 4).trans rfl; have hcz27_5 : w26.cell? ⟨gb368, 5, none⟩ = some (.int .u8 t365) := (blk_cell BK368.out 5).trans rfl; have hcz27_6 : w26.cell? ⟨gb368, 6, none⟩ = some (.int .u8 t366) := (blk_cell BK368.out 6).trans rfl; have hfz27_0 := blk_frozen BK368.out 0; have hfz27_1 := blk_frozen BK368.out 1; have hfz27_2 := blk_frozen BK368.out 2; have hfz27_3 := blk_frozen BK368.out 3; have hfz27_4 := blk_frozen BK368.out 4; have hfz27_5 := blk_frozen BK368.out 5; have hfz27_6 := blk_frozen BK368.out 6))
                go_roundg k1
                case measure => have := HK1.out; omega
                case rel => exact ⟨(y369), (t361), (wrap64 (x23_1 + 1)), (by first | rfl | (simp; done) | (simp [*]; done)), (by first | rfl | (simp; done) | (simp [*]; done)), H', ⟨by have := HK1.out; omega⟩, ⟨by (with_reducible repeat (first | apply Kd.R_alloc | apply Kd.R_drewN | apply Kd.R_drew)); exact Kd.R_mono HO371.out (fun _ hk => trivial)⟩, ⟨by repeat (first | (with_reducible first | exact HB.out | apply below_alloc | apply pw_below_drewN | apply below_drew1 | refine below_set ?_ GE368.out) | exact HB.out)⟩⟩
              · rw [if_neg c22] at H
                exact absurd H (by simp)
            · rw [if_neg c21] at H
              have c21b0 : (t367 == 0) = false := beq_eq_false_iff_ne.mpr c21
              have c21b1 : (t367 != 0) = true := bne_iff_ne.mpr c21
              simp only [Option.some.injEq, Prod.mk.injEq] at H
              obtain ⟨rfl, rfl⟩ := H
              go_wp2_with (first | ((with_reducible refine gate_callee (f := 30) rfl ?_); refine goesL_ (some 37) rfl rfl Tryd.func30 (by kernel_rfl) rfl #[.int .i64 x7_1, .int .u8 0] rfl (by (try simp only [List.map_toArray, List.map_cons, List.map_nil]); first | done | rfl | (simp only [List.length_drop, List.length_take]; rfl)) ?_; (with_reducible refine (trellis_edge.calls x7_1 0 t360 t361 t362 t363 t364 t365 t366 t367 _ A20.out).mono ?_); rintro e w28 ⟨rfl, hb⟩; refine ⟨_, rfl, ?_⟩; have n0_ := Aside0.mk (Kd.R_below (by (with_reducible repeat (first | apply Kd.R_alloc | apply Kd.R_drewN | apply Kd.R_drew)); exact HO_6.out) hb); have n1_ := Aside0.mk (below_step (by repeat (first | (with_reducible first | exact HB.out | apply below_alloc | apply pw_below_drewN | apply below_drew1) | exact HB.out)) hb); clear HO_6; clear HB; have HO_6 := n0_; have HB := n1_; clear n0_ n1_; (try clear hb); (try clear hb2); (try clear hk); (try clear hi)) | ((with_reducible refine gate_dst (N := 10) rfl ?_); refine box_event ?hg (N := 10) ?hd (cs := #[.int .i64 0, .int .i64 0, .int .u8 0, .int .u8 0, .int .u8 0, .int .u8 0, .int .u8 0]) (t := 24) ?hr ?_; (case hd => rfl); (case hg => rfl); (case hr => first | (go_simp; done) | (go_simp; rfl)); intro gb368 hg w29 hbox hb; have n0_ := Aside0.mk (Kd.R_below (Kd.R_elderB (by (with_reducible repeat (first | apply Kd.R_alloc | apply Kd.R_drewN | apply Kd.R_drew)); exact HO_6.out) gb368 (Nat.le_of_eq hg.symm)) hb); have n1_ := Aside0.mk (below_step (by repeat (first | (with_reducible first | exact HB.out | apply below_alloc | apply pw_below_drewN | apply below_drew1) | exact HB.out)) hb); have n2_ := Aside0.mk (hbox); have n3_ := Aside0.mk ((by rw [hg]; exact (below_size (by repeat (first | (with_reducible first | exact HB.out | apply below_alloc | apply pw_below_drewN | apply below_drew1) | exact HB.out))) : w.heap.size ≤ gb368)); have n4_ := Aside0.mk ((by rw [hg]; exact (below_size (by repeat (first | (with_reducible first | exact HB.out | apply below_alloc | apply pw_below_drewN | apply below_drew1) | exact HB.out))) : w.heap.size ≤ gb368)); clear HO_6; clear HB; have HO_6 := n0_; have HB := n1_; have BK368 := n2_; have GW368 := n3_; have GE368 := n4_; clear n0_ n1_ n2_ n3_ n4_; clear hb hbox hg; have hcz30_0 : w29.cell? ⟨gb368, 0, none⟩ = some (.int .i64 0) := (blk_cell BK368.out 0).trans rfl; have hcz30_1 : w29.cell? ⟨gb368, 1, none⟩ = some (.int .i64 0) := (blk_cell BK368.out 1).trans rfl; have hcz30_2 : w29.cell? ⟨gb368, 2, none⟩ = some (.int .u8 0) := (blk_cell BK368.out 2).trans rfl; have hcz30_3 : w29.cell? ⟨gb368, 3, none⟩ = some (.int .u8 0) := (blk_cell BK368.out 3).trans rfl; have hcz30_4 : w29.cell? ⟨gb368, 4, none⟩ = some (.int .u8 0) := (blk_cell BK368.out 4).trans rfl; have hcz30_5 : w29.cell? ⟨gb368, 5, none⟩ = some (.int .u8 0) := (blk_cell BK368.out 5).trans rfl; have hcz30_6 : w29.cell? ⟨gb368, 6, none⟩ = some (.int .u8 0) := (blk_cell BK368.out 6).trans rfl; have hfz30_0 := blk_frozen BK368.out 0; have hfz30_1 := blk_frozen BK368.out 1; have hfz30_2 := blk_frozen BK368.out 2; have hfz30_3 := blk_frozen BK368.out 3; have hfz30_4 := blk_frozen BK368.out 4; have hfz30_5 := blk_frozen BK368.out 5; have hfz30_6 := blk_frozen BK368.out 6))
              go_ret2
              exact ⟨_, by first | rfl | (simp [errW_none, errW_some] <;> rfl) | (simp [*, errW_none, errW_some] <;> rfl), by first | exact Kd.R_nil _ _ _ _ _ | exact Kd.N_nil _ _ _ _ _ | exact Kd.V_nil _ _ _ _ _ | exact Kd.Q_nil _ _ _ _ _ | exact Kd.S_nil _ _ _ _ _, by repeat (first | (with_reducible first | exact HB.out | apply below_alloc | apply pw_below_drewN | apply below_drew1 | refine below_set ?_ GE368.out) | exact HB.out)⟩
        · rw [if_neg c6] at H
          have c6b0 : decide (x23_1 < t346) = false := decide_eq_false c6
          clear c6
          simp only [Option.some.injEq, Prod.mk.injEq] at H
          obtain ⟨rfl, rfl⟩ := H
          go_wp2
          go_ret2
          exact ⟨_, by first | rfl | (simp [errW_none, errW_some] <;> rfl) | (simp [*, errW_none, errW_some] <;> rfl), by (with_reducible repeat (first | apply Kd.R_alloc | apply Kd.R_drewN | apply Kd.R_drew)); exact HO_6.out, by repeat (first | (with_reducible first | exact HB.out | apply below_alloc | apply pw_below_drewN | apply below_drew1) | exact HB.out)⟩
  · rw [if_neg c3] at H
    have c3b0 : (t343 == 0) = false := beq_eq_false_iff_ne.mpr c3
    have c3b1 : (t343 != 0) = true := bne_iff_ne.mpr c3
    simp only [Option.some.injEq, Prod.mk.injEq] at H
    obtain ⟨rfl, rfl⟩ := H
    go_enter Tryd.func14, Tryd.ntmps14
    go_wp2_with (first | ((with_reducible refine gate_callee (f := 28) rfl ?_); refine goesL_ (some 14) rfl rfl Tryd.func28 (by kernel_rfl) rfl #[.slice A0 l0.length c0] rfl (by (try simp only [List.map_toArray, List.map_cons, List.map_nil]); first | done | rfl | (simp only [List.length_drop, List.length_take]; rfl)) ?_; (with_reducible refine (conv_Code.calls k _ _ l0 t342 t343 _ ?side1 ?side2 A2.out).mono ?_); (case side1 => repeat (first | exact HR0.out | (with_reducible refine Kd.C_alloc ?_ _) | (with_reducible refine Kd.C_drewN ?_ _) | (with_reducible refine Kd.C_drew ?_))); (case side2 => exact HC0.out); rintro e w31 ⟨v344, rfl, ho0, hb⟩; refine ⟨_, rfl, ?_⟩; have n0_ := Aside0.mk (Kd.R_lower ho0 (below_size (by repeat (first | (with_reducible first | exact HB.out | apply below_alloc | apply pw_below_drewN | apply below_drew1) | exact HB.out)))); have n1_ := Aside0.mk (below_step (by repeat (first | (with_reducible first | exact HB.out | apply below_alloc | apply pw_below_drewN | apply below_drew1) | exact HB.out)) hb); clear HB; have HO345 := n0_; have HB := n1_; clear n0_ n1_; (try clear hb); (try clear hb2); (try clear hk); (try clear hi); (try clear ho0)))
    go_ret2
    exact ⟨_, by first | rfl | (simp [errW_none, errW_some] <;> rfl) | (simp [*, errW_none, errW_some] <;> rfl), by first | exact Kd.R_nil _ _ _ _ _ | exact Kd.N_nil _ _ _ _ _ | exact Kd.V_nil _ _ _ _ _ | exact Kd.Q_nil _ _ _ _ _ | exact Kd.S_nil _ _ _ _ _, by repeat (first | (with_reducible first | exact HB.out | apply below_alloc | apply pw_below_drewN | apply below_drew1) | exact HB.out)⟩

end Go.Proofs.YtmajbcglpcagoaaDoor.X

-- YtmajbcglpcagoaaDoorX29
namespace Go.Proofs.YtmajbcglpcagoaaDoor.X
open Go.RowKit Go.Proofs.YtmajbcglpcagoaaDoorW.PrintWords Go.Proofs.YtmajbcglpcagoaaDoorW.PrintLast Go.Proofs.YtmajbcglpcagoaaDoorW.PrintMore
attribute [local go_sem] max2_int min2_int max_two min_two max_three min_three max_four min_four   -- for this text's walks alone
set_option linter.unusedVariables false
set_option linter.unusedSimpArgs false

/-! ### shuttleref01_Right: function 15 -/
def shuttleref01_Right.l0 : Nat → List Int → Int → Option (Bool)
  | 0, _, _ => none
  | k + 1, x0, x3 => if x3 < (x0.length : Int) then (if 0 ≤ x3 then (if (rd x0 x3) > 1 then (some false) else (shuttleref01_Right.l0 k x0 (wrap64 (x3 + 1)))) else (none)) else (some true)
def shuttleref01_Right.f (k : Nat) (l0 : List Int) : Option (Bool) := shuttleref01_Right.l0 k l0 0
theorem shuttleref01_Right.mono_l : ∀ k, (∀ y0 y1, LeO (shuttleref01_Right.l0 k y0 y1) (shuttleref01_Right.l0 (k + 1) y0 y1))
  | 0 => fun _ _ r h => by simp [shuttleref01_Right.l0] at h
  | k + 1 => by
    have ih0 := shuttleref01_Right.mono_l k
    · intro y0 y1
      unfold shuttleref01_Right.l0
      repeat' first
      | (with_reducible exact ih0 _ _)
      | (with_reducible exact LeO.refl _)
      | (with_reducible exact LeO.none _)
      | (with_reducible refine LeO.ite ?_ ?_)
      | (with_reducible refine LeO.bind ?_ (fun _ => ?_))
      | exact ih0 _ _
      | exact LeO.none _
      | refine LeO.ite ?_ ?_
      | refine LeO.bind ?_ (fun _ => ?_)
theorem shuttleref01_Right.mono : ∀ a0 k, LeO (shuttleref01_Right.f k a0) (shuttleref01_Right.f (k + 1) a0) := by
  intro a0 k
  have ih0 := shuttleref01_Right.mono_l k
  unfold shuttleref01_Right.f
  repeat' first
      | (with_reducible exact ih0 _ _)
      | (with_reducible exact LeO.refl _)
      | (with_reducible exact LeO.none _)
      | (with_reducible refine LeO.ite ?_ ?_)
      | (with_reducible refine LeO.bind ?_ (fun _ => ?_))
      | exact ih0 _ _
      | exact LeO.none _
      | refine LeO.ite ?_ ?_
      | refine LeO.bind ?_ (fun _ => ?_)
set_option maxHeartbeats 8000000 in
set_option maxRecDepth 100000 in
theorem shuttleref01_Right.calls (k : Nat) (A0 : Option Addr) (c0 : Nat) (l0 : List Int) (r : Bool) (w : World) (hr0 : Kd.C (Kd.int .u8) w A0 l0.length l0) (hc0 : l0.length ≤ c0) (h : shuttleref01_Right.f k l0 = some r) :
    Calls Tryd.prog 15 #[.slice A0 l0.length c0] w fun e w' => e = .returned (.bool r) ∧ Drawn0 w w' := by
  have HR0 := Aside0.mk hr0
  have HC0 := Aside0.mk hc0
  clear hr0 hc0
  have H : (shuttleref01_Right.l0 k l0 0) = some r := h
  clear h
  have H' := Aside0.mk H
  clear H
  go_enter Tryd.func15, Tryd.ntmps15
  go_wp2
  go_loopg [3] k (fun kq v3 w' => ∃ (x3_1 : Int), v3 = .int .i64 x3_1 ∧ Aside0 (shuttleref01_Right.l0 kq l0 x3_1 = some r) ∧ Aside0 (kq ≤ k) ∧ Drawn0 w w')
  case atStart => exact ⟨(0), (by first | rfl | (simp; done) | (simp [*]; done)), H', ⟨Nat.le_refl _⟩, by repeat (first | exact Drawn0.refl _ | apply Drawn0.step)⟩
  case round =>
    clear H'
    try clear c1
    obtain ⟨x3_1, rfl, HA, HK1, ⟨m1, rfl⟩⟩ := hrel
    cases gk with
    | zero => exact absurd HA.out (by simp [shuttleref01_Right.l0])
    | succ k1 =>
      have H := HA.out
      clear HA
      simp only [shuttleref01_Right.l0] at H
      by_cases c2 : x3_1 < (l0.length : Int)
      · rw [if_pos c2] at H
        have c2b0 : decide (x3_1 < (l0.length : Int)) = true := decide_eq_true c2
        clear c2
        by_cases c3 : 0 ≤ x3_1
        · rw [if_pos c3] at H
          have c3b0 : decide (0 ≤ x3_1) = true := decide_eq_true c3
          clear c3
          by_cases c4 : (rd l0 x3_1) > 1
          · rw [if_pos c4] at H
            have c4b0 : decide (1 < (rd l0 x3_1)) = true := decide_eq_true c4
            clear c4
            obtain rfl := Option.some.inj H
            have p372 : 0 ≤ (x3_1 : Int) := of_decide_eq_true (by first | (with_reducible assumption) | assumption)
            have q372 : x3_1 < (l0.length : Int) := of_decide_eq_true (by first | (with_reducible assumption) | assumption)
            obtain ⟨ad372, e372, hx372_0⟩ := Kd.at_int HR0.out x3_1 p372 q372
            cases e372
            replace p372 := eq_true p372
            replace q372 := eq_true q372
            go_wp2
            go_ret
            exact ⟨by first | rfl | (simp; done) | (simp [*]; done), by repeat (first | exact Drawn0.refl _ | apply Drawn0.step)⟩
          · rw [if_neg c4] at H
            have c4b0 : decide (1 < (rd l0 x3_1)) = false := decide_eq_false c4
            clear c4
            have H' := Aside0.mk H
            clear H
            have p372 : 0 ≤ (x3_1 : Int) := of_decide_eq_true (by first | (with_reducible assumption) | assumption)
            have q372 : x3_1 < (l0.length : Int) := of_decide_eq_true (by first | (with_reducible assumption) | assumption)
            obtain ⟨ad372, e372, hx372_0⟩ := Kd.at_int HR0.out x3_1 p372 q372
            cases e372
            replace p372 := eq_true p372
            replace q372 := eq_true q372
            go_wp2
            go_roundg k1
            case measure => have := HK1.out; omega
            case rel => exact ⟨(wrap64 (x3_1 + 1)), (by first | rfl | (simp; done) | (simp [*]; done)), H', ⟨by have := HK1.out; omega⟩, by repeat (first | exact Drawn0.refl _ | apply Drawn0.step)⟩
        · rw [if_neg c3] at H
          exact absurd H (by simp)
      · rw [if_neg c2] at H
        have c2b0 : decide (x3_1 < (l0.length : Int)) = false := decide_eq_false c2
        clear c2
        obtain rfl := Option.some.inj H
        go_wp2
        go_ret
        exact ⟨by first | rfl | (simp; done) | (simp [*]; done), by repeat (first | exact Drawn0.refl _ | apply Drawn0.step)⟩

end Go.Proofs.YtmajbcglpcagoaaDoor.X

-- YtmajbcglpcagoaaDoorX16
namespace Go.Proofs.YtmajbcglpcagoaaDoor.X
open Go.RowKit Go.Proofs.YtmajbcglpcagoaaDoorW.PrintWords Go.Proofs.YtmajbcglpcagoaaDoorW.PrintLast Go.Proofs.YtmajbcglpcagoaaDoorW.PrintMore
attribute [local go_sem] max2_int min2_int max_two min_two max_three min_three max_four min_four   -- for this text's walks alone
set_option linter.unusedVariables false
set_option linter.unusedSimpArgs false

/-! ### shuttleref06_List: function 26 -/
def shuttleref06_List.l0 : Nat → Int → Int → List Int → Int → Option (List Int)
  | 0, _, _, _, _ => none
  | k + 1, x0, x1, x5, x6 => if x6 < 6 then (if 0 ≤ x6 then (if x5.length < 140737488355328 then (shuttleref06_List.l0 k x0 x1 (x5 ++ [(Go.bits .and .i64 (shr .i64 x0 x6) 1) % 256]) (wrap64 (x6 + 1))) else (none)) else (none)) else (if x5.length < 140737488355328 then (some (x5 ++ [x1])) else (none))
def shuttleref06_List.f (k : Nat) (a0 : Int) (a1 : Int) : Option (List Int) := shuttleref06_List.l0 k a0 a1 ([] : List Int) 0
theorem shuttleref06_List.mono_l : ∀ k, (∀ y0 y1 y2 y3, LeO (shuttleref06_List.l0 k y0 y1 y2 y3) (shuttleref06_List.l0 (k + 1) y0 y1 y2 y3))
  | 0 => fun _ _ _ _ r h => by simp [shuttleref06_List.l0] at h
  | k + 1 => by
    have ih0 := shuttleref06_List.mono_l k
    · intro y0 y1 y2 y3
      unfold shuttleref06_List.l0
      repeat' first
      | (with_reducible exact ih0 _ _ _ _)
      | (with_reducible exact LeO.refl _)
      | (with_reducible exact LeO.none _)
      | (with_reducible refine LeO.ite ?_ ?_)
      | (with_reducible refine LeO.bind ?_ (fun _ => ?_))
      | exact ih0 _ _ _ _
      | exact LeO.none _
      | refine LeO.ite ?_ ?_
      | refine LeO.bind ?_ (fun _ => ?_)
theorem shuttleref06_List.mono : ∀ a0 a1 k, LeO (shuttleref06_List.f k a0 a1) (shuttleref06_List.f (k + 1) a0 a1) := by
  intro a0 a1 k
  have ih0 := shuttleref06_List.mono_l k
  unfold shuttleref06_List.f
  repeat' first
      | (with_reducible exact ih0 _ _ _ _)
      | (with_reducible exact LeO.refl _)
      | (with_reducible exact LeO.none _)
      | (with_reducible refine LeO.ite ?_ ?_)
      | (with_reducible refine LeO.bind ?_ (fun _ => ?_))
      | exact ih0 _ _ _ _
      | exact LeO.none _
      | refine LeO.ite ?_ ?_
      | refine LeO.bind ?_ (fun _ => ?_)
set_option maxHeartbeats 8000000 in
set_option maxRecDepth 100000 in
theorem shuttleref06_List.calls (k : Nat) (a0 : Int) (a1 : Int) (r : List Int) (w : World) (h : shuttleref06_List.f k a0 a1 = some r) :
    Calls Tryd.prog 26 #[.int .i64 a0, .int .u8 a1] w fun e w' => ∃ v0_ : Value, e = .returned (v0_) ∧ Kd.R (Kd.int .u8) 5 w' w.heap.size (fun _ => True) v0_ r ∧ Below w.heap.size w w' := by
  have HB := Aside0.mk (Below.refl w.heap.size w)
  have H : (shuttleref06_List.l0 k a0 a1 ([] : List Int) 0) = some r := h
  clear h
  have H' := Aside0.mk H
  clear H
  go_enter Tryd.func26, Tryd.ntmps26
  go_wp2
  go_loopg [5, 6] k (fun kq v5 v6 w' => ∃ (x5_1 : List Int) (x6_1 : Int), v6 = .int .i64 x6_1 ∧ Aside0 (shuttleref06_List.l0 kq a0 a1 x5_1 x6_1 = some r) ∧ Aside0 (kq ≤ k) ∧ Aside0 (Kd.R (Kd.int .u8) 5 w' w.heap.size (fun _ => True) v5 x5_1) ∧ Aside0 (Below w.heap.size w w'))
  case atStart => exact ⟨(([] : List Int)), (0), (by first | rfl | (simp; done) | (simp [*]; done)), H', ⟨Nat.le_refl _⟩, ⟨by first | exact Kd.R_nil _ _ _ _ _ | exact Kd.N_nil _ _ _ _ _ | exact Kd.V_nil _ _ _ _ _ | exact Kd.Q_nil _ _ _ _ _ | exact Kd.S_nil _ _ _ _ _⟩, ⟨by repeat (first | (with_reducible first | exact HB.out | apply below_alloc | apply pw_below_drewN | apply below_drew1) | exact HB.out)⟩⟩
  case round =>
    clear H'
    try clear c2
    try clear p2
    obtain ⟨x5_1, x6_1, rfl, HA, HK1, HO_5, HB⟩ := hrel
    cases gk with
    | zero => exact absurd HA.out (by simp [shuttleref06_List.l0])
    | succ k1 =>
      have H := HA.out
      clear HA
      simp only [shuttleref06_List.l0] at H
      by_cases c3 : x6_1 < 6
      · rw [if_pos c3] at H
        have c3b0 : decide (x6_1 < 6) = true := decide_eq_true c3
        clear c3
        by_cases c4 : 0 ≤ x6_1
        · rw [if_pos c4] at H
          have c4b0 := eq_true c4
          have c4b1 : decide (0 ≤ x6_1) = true := decide_eq_true c4
          clear c4
          obtain ⟨ji5, hji5⟩ : ∃ j_ : Int, (shr .i64 a0 x6_1) = j_ := ⟨_, rfl⟩
          replace H : (if x5_1.length < 140737488355328 then (shuttleref06_List.l0 k1 a0 a1 (x5_1 ++ [(Go.bits .and .i64 (ji5) 1) % 256]) (wrap64 (x6_1 + 1))) else (none)) = some r := by first | (rw [hji5] at H; exact H) | (simp only [hji5] at H ⊢; exact H)
          have hji5_ : (a0 / 2 ^ min x6_1.toNat 64) = ji5 := hji5
          have hji5z : x6_1 ≤ 64 → (a0 / 2 ^ x6_1.toNat) = ji5 := shr_small hji5
          by_cases c6 : x5_1.length < 140737488355328
          · rw [if_pos c6] at H
            have LMc6 := Aside0.mk c6
            clear c6
            obtain ⟨y189, hy189⟩ : ∃ y_ : List Int, y_ = (x5_1 ++ [(Go.bits .and .i64 (ji5) 1) % 256]) := ⟨_, rfl⟩
            replace H : (shuttleref06_List.l0 k1 a0 a1 y189 (wrap64 (x6_1 + 1))) = some r := by first | (rw [hy189]; with_reducible exact H) | (have H2_ := (Option.bind_some _ _).symm.trans H; rw [hy189]; with_reducible exact H2_) | (have H2_ := (Option.bind_some _ _).symm.trans H; with_reducible exact H2_) | with_reducible exact H | (rw [hy189]; exact H) | exact H
            have Ny189 := Aside0.mk hy189
            clear hy189
            have H' := Aside0.mk H
            clear H
            go_wp2_with (first | ((with_reducible refine gate_builtin (b := .append) (xs := #[.tmp 11, .tmp 17]) rfl ?_); at_builtin; refine Kd.R_append (Kd.int .u8) (w0 := w) w.heap.size rfl (.tmp 11) (.tmp 17) 35 5 (.int .u8 0) 1 rfl Tryd.underlying35 info5 rfl (by decide) (by omega) u5 x5_1 ((Go.bits .and .i64 (ji5) 1) % 256) [.int .u8 ((Go.bits .and .i64 (ji5) 1) % 256)] (fun _ => True) (fun _ => False) rfl rfl ?aP (fun _ hk => hk.elim) ?aF ?aO ?aB ?aS ?aL ?_; (case aP => exact rfl); (case aB => exact (by repeat (first | (with_reducible first | exact HB.out | apply below_alloc | apply pw_below_drewN | apply below_drew1) | exact HB.out))); (case aF => exact (fun _ _ => trivial)); (case aO => exact (by (with_reducible repeat (first | apply Kd.R_alloc | apply Kd.R_drewN | apply Kd.R_drew)); exact HO_5.out)); (case aS => exact (below_size (by repeat (first | (with_reducible first | exact HB.out | apply below_alloc | apply pw_below_drewN | apply below_drew1) | exact HB.out)))); (case aL => have := LMc6.out; omega); intro v190 w7 ho hb hg hat; rw [← Ny189.out] at ho; have n0_ := Aside0.mk (hb); have n1_ := Aside0.mk (ho); clear HB; clear HO_5; have HB := n0_; have HO191 := n1_; clear n0_ n1_; clear ho hb hg hat))
            go_roundg k1
            case measure => have := HK1.out; omega
            case rel => exact ⟨(y189), (wrap64 (x6_1 + 1)), (by first | rfl | (simp; done) | (simp [*]; done)), H', ⟨by have := HK1.out; omega⟩, ⟨by (with_reducible repeat (first | apply Kd.R_alloc | apply Kd.R_drewN | apply Kd.R_drew)); exact HO191.out⟩, ⟨by repeat (first | (with_reducible first | exact HB.out | apply below_alloc | apply pw_below_drewN | apply below_drew1) | exact HB.out)⟩⟩
          · rw [if_neg c6] at H
            exact absurd H (by simp)
        · rw [if_neg c4] at H
          exact absurd H (by simp)
      · rw [if_neg c3] at H
        have c3b0 : decide (x6_1 < 6) = false := decide_eq_false c3
        clear c3
        by_cases c8 : x5_1.length < 140737488355328
        · rw [if_pos c8] at H
          have LMc8 := Aside0.mk c8
          clear c8
          obtain ⟨y192, hy192⟩ : ∃ y_ : List Int, y_ = (x5_1 ++ [a1]) := ⟨_, rfl⟩
          replace H : (some y192) = some r := by first | (rw [hy192]; with_reducible exact H) | (have H2_ := (Option.bind_some _ _).symm.trans H; rw [hy192]; with_reducible exact H2_) | (have H2_ := (Option.bind_some _ _).symm.trans H; with_reducible exact H2_) | with_reducible exact H | (rw [hy192]; exact H) | exact H
          have Ny192 := Aside0.mk hy192
          clear hy192
          obtain rfl := Option.some.inj H
          go_wp2_with (first | ((with_reducible refine gate_builtin (b := .append) (xs := #[.tmp 19, .tmp 21]) rfl ?_); at_builtin; refine Kd.R_append (Kd.int .u8) (w0 := w) w.heap.size rfl (.tmp 19) (.tmp 21) 35 5 (.int .u8 0) 1 rfl Tryd.underlying35 info5 rfl (by decide) (by omega) u5 x5_1 a1 [.int .u8 a1] (fun _ => True) (fun _ => False) rfl rfl ?aP (fun _ hk => hk.elim) ?aF ?aO ?aB ?aS ?aL ?_; (case aP => exact rfl); (case aB => exact (by repeat (first | (with_reducible first | exact HB.out | apply below_alloc | apply pw_below_drewN | apply below_drew1) | exact HB.out))); (case aF => exact (fun _ _ => trivial)); (case aO => exact (by (with_reducible repeat (first | apply Kd.R_alloc | apply Kd.R_drewN | apply Kd.R_drew)); exact HO_5.out)); (case aS => exact (below_size (by repeat (first | (with_reducible first | exact HB.out | apply below_alloc | apply pw_below_drewN | apply below_drew1) | exact HB.out)))); (case aL => have := LMc8.out; omega); intro v193 w9 ho hb hg hat; rw [← Ny192.out] at ho; have n0_ := Aside0.mk (hb); have n1_ := Aside0.mk (ho); clear HB; clear HO_5; have HB := n0_; have HO194 := n1_; clear n0_ n1_; clear ho hb hg hat))
          go_ret
          exact ⟨_, by first | rfl | (simp [errW_none, errW_some] <;> rfl) | (simp [*, errW_none, errW_some] <;> rfl), by (with_reducible repeat (first | apply Kd.R_alloc | apply Kd.R_drewN | apply Kd.R_drew)); exact HO194.out, by repeat (first | (with_reducible first | exact HB.out | apply below_alloc | apply pw_below_drewN | apply below_drew1) | exact HB.out)⟩
        · rw [if_neg c8] at H
          exact absurd H (by simp)

end Go.Proofs.YtmajbcglpcagoaaDoor.X

-- YtmajbcglpcagoaaDoorX18
namespace Go.Proofs.YtmajbcglpcagoaaDoor.X
open Go.RowKit Go.Proofs.YtmajbcglpcagoaaDoorW.PrintWords Go.Proofs.YtmajbcglpcagoaaDoorW.PrintLast Go.Proofs.YtmajbcglpcagoaaDoorW.PrintMore
attribute [local go_sem] max2_int min2_int max_two min_two max_three min_three max_four min_four   -- for this text's walks alone
set_option linter.unusedVariables false
set_option linter.unusedSimpArgs false

/-! ### shuttleref06_Bit: function 27 -/
attribute [local go_sem] run_index_arr

def tapsL : List Int := [1, 0, 0, 1, 1, 1, 1, 1, 0, 1, 0, 1, 1, 1, 1, 1, 0, 1, 1, 0, 1, 1, 1, 1, 1, 0, 0, 1]
def tapsV : Array Value := (nums .u8 tapsL).toArray
def tapAt (s k : Nat) : Int := tapsL.getD (s * 7 + k) 0
theorem taps_size : (Tryd.prog.info? 68).map (·.size) = some tapsV.size := by
  rw [show tapsV.size = 28 from rfl]
  kernel_rfl
theorem taps_one : tapsV.all (·.oneCell') = true := by decide +kernel
theorem taps_lit : #[Value.int .u8 1, .int .u8 0, .int .u8 0, .int .u8 1, .int .u8 1, .int .u8 1, .int .u8 1, .int .u8 1, .int .u8 0, .int .u8 1, .int .u8 0, .int .u8 1, .int .u8 1, .int .u8 1, .int .u8 1, .int .u8 1, .int .u8 0, .int .u8 1, .int .u8 1, .int .u8 0, .int .u8 1, .int .u8 1, .int .u8 1, .int .u8 1, .int .u8 1, .int .u8 0, .int .u8 0, .int .u8 1] = tapsV := rfl
/-- What a stream tells of a list at a step, behind k of the seven places. -/
def bitR (l : List Int) (step s : Nat) : Nat → Int
  | 0 => 0
  | k + 1 => if k ≤ step ∧ step - k < l.length then Go.bits .xor .u8 (bitR l step s k) (Go.bits .and .u8 (tapAt s k) (l.getD (step - k) 0)) else bitR l step s k
def shuttleref06_Bit.f (l0 : List Int) (a1 : Int) (a2 : Int) : Option Int := if 0 ≤ a1 ∧ a1 ≤ 9223372036854775807 ∧ 0 ≤ a2 ∧ a2 < 4 then some (bitR l0 a1.toNat a2.toNat 7) else none
set_option maxRecDepth 100000 in
set_option maxHeartbeats 4000000 in
theorem shuttleref06_taps_calls (w : World) :
    Calls Tryd.prog 38 #[] w fun e w' => e = .returned (.agg tapsV) ∧ Below w.heap.size w w' := by
  go_enter Tryd.func38, Tryd.ntmps38
  have k0 := Aside0.mk (heap_alloc_new w (.cells #[.int .u8 0, .int .u8 0, .int .u8 0, .int .u8 0, .int .u8 0, .int .u8 0, .int .u8 0, .int .u8 0, .int .u8 0, .int .u8 0, .int .u8 0, .int .u8 0, .int .u8 0, .int .u8 0, .int .u8 0, .int .u8 0, .int .u8 0, .int .u8 0, .int .u8 0, .int .u8 0, .int .u8 0, .int .u8 0, .int .u8 0, .int .u8 0, .int .u8 0, .int .u8 0, .int .u8 0, .int .u8 0] 68))
  go_wp2_with (refine wpList_store_row rfl 68 (.tmp 0) (.tmp 5) rfl w.heap.size tapsV rfl rfl 68 _ k0.out taps_size rfl taps_one ?_)
  refine bodyPost_ret (results_cell_row rfl _ _ w.heap.size 68 tapsV (0, 0) _ rfl (setRow_heap _ _ _ _ _ _ k0.out) Tryd.underlying68 rfl (by kernel_rfl)) rfl ?_
  exact ⟨rfl, below_setRow (below_alloc (Below.refl _ _) _) (Nat.le_refl _) _⟩
theorem tapsV_at (s k : Nat) (hs : s < 4) (hk : k < 7) : tapsV[s * 7 + k]? = some (.int .u8 (tapAt s k)) := by
  unfold tapsV tapAt nums
  have h : s * 7 + k < tapsL.length := by show _ < 28; omega
  rw [List.getElem?_toArray, List.getElem?_map, List.getElem?_eq_getElem h, List.getD_eq_getElem?_getD, List.getElem?_eq_getElem h]
  rfl
set_option maxRecDepth 100000 in
set_option maxHeartbeats 4000000 in
theorem shuttleref06_Bit.calls (A0 : Option Addr) (c0 : Nat) (l0 : List Int) (a1 : Int) (a2 : Int) (r : Int) (w : World) (hr0 : Kd.C (Kd.int .u8) w A0 l0.length l0) (hc0 : l0.length ≤ c0) (h : shuttleref06_Bit.f l0 a1 a2 = some r) :
    Calls Tryd.prog 27 #[.slice A0 l0.length c0, .int .i64 a1, .int .i64 a2] w fun e w' => e = .returned (.int .u8 r) ∧ Below w.heap.size w w' := by
  unfold shuttleref06_Bit.f at h
  by_cases hg : 0 ≤ a1 ∧ a1 ≤ 9223372036854775807 ∧ 0 ≤ a2 ∧ a2 < 4
  · rw [if_pos hg] at h
    obtain ⟨step, rfl⟩ := Int.eq_ofNat_of_zero_le hg.1
    obtain ⟨s, rfl⟩ := Int.eq_ofNat_of_zero_le hg.2.2.1
    have hs : s < 4 := by omega
    have hst : (step : Int) ≤ 9223372036854775807 := hg.2.1
    clear hg
    simp only [Int.toNat_natCast, Option.some.injEq] at h
    subst h
    replace hr0 := Aside0.mk hr0
    have hl0 : (l0.length : Int) ≤ 9223372036854775807 := by
      have := hr0.out.2.1
      omega
    go_enter Tryd.func27, Tryd.ntmps27
    go_wp2_with (first | ((with_reducible refine gate_callee (f := 38) rfl ?_); refine goesL_ (some 10) rfl rfl Tryd.func38 (by kernel_rfl) rfl #[] rfl (by (try simp only [List.map_toArray, List.map_cons, List.map_nil]); first | done | rfl) ?_; (with_reducible refine (shuttleref06_taps_calls _).mono ?_); rintro e w1 ⟨rfl, HB0⟩; refine ⟨_, rfl, ?_⟩; have HB := Aside0.mk HB0; clear HB0)  | ((with_reducible refine gate_dst (N := 7) rfl ?_); refine box_event ?hg (N := 7) ?hd (cs := #[.int .u8 0, .int .u8 0, .int .u8 0, .int .u8 0, .int .u8 0, .int .u8 0, .int .u8 0, .int .u8 0, .int .u8 0, .int .u8 0, .int .u8 0, .int .u8 0, .int .u8 0, .int .u8 0, .int .u8 0, .int .u8 0, .int .u8 0, .int .u8 0, .int .u8 0, .int .u8 0, .int .u8 0, .int .u8 0, .int .u8 0, .int .u8 0, .int .u8 0, .int .u8 0, .int .u8 0, .int .u8 0]) (t := 68) ?hr ?_; (case hd => rfl); (case hg => rfl); (case hr => first | (go_simp; done) | (go_simp; rfl)); intro g hge w2 hbox0 hb0; have hbox := Aside0.mk hbox0; have HB1 := Aside0.mk (below_step HB.out hb0); have hgl := Aside0.mk (show w.heap.size ≤ g by rw [hge]; exact HB.out.size); clear HB hbox0 hb0 hge)  | (refine wpList_store_row rfl 68 (.tmp 7) (.tmp 10) rfl g tapsV rfl rfl 68 _ hbox.out taps_size rfl taps_one ?_; have BK := Aside0.mk (setRow_heap w2 g _ tapsV _ _ hbox.out); have HB2 := Aside0.mk (below_setRow HB1.out hgl.out tapsV); clear hbox HB1; obtain ⟨w3, hw3⟩ : ∃ w3, w2.setRow g tapsV = w3 := ⟨_, rfl⟩; rw [hw3] at BK HB2 ⊢; clear hw3))
    replace hst := Aside0.mk hst
    replace hl0 := Aside0.mk hl0
    go_loopw [8, 9] (fun v8 v9 wr => ∃ q : Nat, q ≤ 7 ∧ v8 = .int .u8 (bitR l0 step s q) ∧ v9 = .int .i64 (q : Int) ∧ Aside0 (wr.heap[g]? = some (.cells tapsV 68 (0, 0))) ∧ Aside0 (Below w.heap.size w wr)) (fun _ v9 _ => 7 - (intOf v9).toNat)
    case atStart => exact ⟨0, by omega, rfl, rfl, BK, HB2⟩
    case round =>
      clear BK HB2
      obtain ⟨q, hq, rfl, rfl, BK, HB⟩ := hrel
      by_cases hq7 : q < 7
      · have hlt7 : (q : Int) < 7 := by omega
        by_cases c1 : q ≤ step
        · obtain ⟨d, hd⟩ : ∃ d, step - q = d := ⟨_, rfl⟩
          have e1 : wrap64 ((step : Int) - (q : Int)) = (d : Int) := by have := hst.out; unfold wrap64; omega
          have e2 : (0 : Int) ≤ (d : Int) := by omega
          by_cases c2 : d < l0.length
          · have e3 : (d : Int) < (l0.length : Int) := by omega
            obtain ⟨ad, hA, hcs⟩ := (Kd.C_below hr0.out HB.out).2.2 (by omega)
            subst hA
            have hx : wr.cell? (ad.add d) = some (.int .u8 (l0.getD d 0)) := by
              obtain ⟨c, h1, h2, h3⟩ := hcs d _ (List.getElem?_eq_getElem c2)
              have h2' : c = [Value.int .u8 l0[d]] := h2
              subst h2'
              have h4 := h3 0 _ rfl
              rw [List.getD_eq_getElem?_getD, List.getElem?_eq_getElem c2]
              simpa [Kd.int, Kd.scalar] using h4
            have hy := (blk_cell BK.out (s * 7 + q)).trans (tapsV_at s q hs hq7)
            clear hcs
            go_wp2
            go_region
            all_goals
              go_wp2
              have es : wrap64 ((q : Int) + 1) = ((q + 1 : Nat) : Int) := by unfold wrap64; omega
              go_roundw
              case rel =>
                refine ⟨q + 1, by omega, ?_, by first | rfl | rw [es] | (simp; done), ⟨by first | exact BK.out | (exact blk_drew BK.out)⟩, ⟨by first | exact HB.out | exact below_drew1 HB.out⟩⟩
                show _ = Value.int .u8 (bitR l0 step s (q + 1))
                rw [bitR, if_pos ⟨c1, by rw [hd]; exact c2⟩, hd, List.getD_eq_getElem?_getD, List.getElem?_eq_getElem c2]
                rfl
              case measure => simp [intOf]; omega
          · have e3 : ¬ (d : Int) < (l0.length : Int) := by omega
            go_wp2
            have es : wrap64 ((q : Int) + 1) = ((q + 1 : Nat) : Int) := by unfold wrap64; omega
            go_roundw
            case rel =>
              refine ⟨q + 1, by omega, ?_, by first | rfl | rw [es] | (simp; done), BK, HB⟩
              show _ = Value.int .u8 (bitR l0 step s (q + 1))
              rw [bitR, if_neg (fun h => c2 (by rw [← hd]; exact h.2))]
            case measure => simp [intOf]; omega
        · have e1 : wrap64 ((step : Int) - (q : Int)) = (step : Int) - (q : Int) := by unfold wrap64; omega
          have e2 : ¬ (0 : Int) ≤ (step : Int) - (q : Int) := by omega
          have e3 : ¬ (q : Int) ≤ (step : Int) := by omega
          go_wp2
          have es : wrap64 ((q : Int) + 1) = ((q + 1 : Nat) : Int) := by unfold wrap64; omega
          go_roundw
          case rel =>
            refine ⟨q + 1, by omega, ?_, by first | rfl | rw [es] | (simp; done), BK, HB⟩
            show _ = Value.int .u8 (bitR l0 step s (q + 1))
            rw [bitR, if_neg (fun h => c1 h.1)]
          case measure => simp [intOf]; omega
      · obtain rfl : q = 7 := by omega
        go_wp2
        go_ret
        exact ⟨by first | rfl | (simp; done), HB.out⟩
  · rw [if_neg hg] at h; cases h

end Go.Proofs.YtmajbcglpcagoaaDoor.X

-- YtmajbcglpcagoaaDoorX19
namespace Go.Proofs.YtmajbcglpcagoaaDoor.X
open Go.RowKit Go.Proofs.YtmajbcglpcagoaaDoorW.PrintWords Go.Proofs.YtmajbcglpcagoaaDoorW.PrintLast Go.Proofs.YtmajbcglpcagoaaDoorW.PrintMore
attribute [local go_sem] max2_int min2_int max_two min_two max_three min_three max_four min_four   -- for this text's walks alone
set_option linter.unusedVariables false
set_option linter.unusedSimpArgs false

/-! ### shuttleref07_Step: function 13 -/
def shuttleref07_Step.l0 : Nat → List Int → Int → Int → Int → Int → Int → Int → Int → Int → Option (Int × Int × Int × Int × Int × Int × Int)
  | 0, _, _, _, _, _, _, _, _, _ => none
  | k + 1, x6, x7, x197000, x197001, x197002, x197003, x197004, x197005, x197006 => if x7 < 4 then ((shuttleref06_Bit.f x6 6 x7).bind fun t200 => (if x7 = 0 then (shuttleref07_Step.l0 k x6 (0 + 1) x197000 x197001 x197002 t200 x197004 x197005 x197006) else (if x7 = 1 then (shuttleref07_Step.l0 k x6 (1 + 1) x197000 x197001 x197002 x197003 t200 x197005 x197006) else (if x7 = 2 then (shuttleref07_Step.l0 k x6 (2 + 1) x197000 x197001 x197002 x197003 x197004 t200 x197006) else (if x7 = 3 then (shuttleref07_Step.l0 k x6 (3 + 1) x197000 x197001 x197002 x197003 x197004 x197005 t200) else (none)))))) else (some (x197000, x197001, x197002, x197003, x197004, x197005, x197006))
def shuttleref07_Step.f (k : Nat) (a0 : Int) (a1 : Int) : Option (Int × Int × Int × Int × Int × Int × Int) := (shuttleref06_List.f k a0 a1).bind fun t197 => (shuttleref07_Step.l0 k t197 0 a0 (wrap64 ((wrap64 (Int.tdiv a0 2)) + (wrap64 (32 * (wrap64 (a1)))))) a1 0 0 0 0)
theorem shuttleref07_Step.mono_l : ∀ k, (∀ y0 y1 y2 y3 y4 y5 y6 y7 y8, LeO (shuttleref07_Step.l0 k y0 y1 y2 y3 y4 y5 y6 y7 y8) (shuttleref07_Step.l0 (k + 1) y0 y1 y2 y3 y4 y5 y6 y7 y8))
  | 0 => fun _ _ _ _ _ _ _ _ _ r h => by simp [shuttleref07_Step.l0] at h
  | k + 1 => by
    have ih0 := shuttleref07_Step.mono_l k
    · intro y0 y1 y2 y3 y4 y5 y6 y7 y8
      unfold shuttleref07_Step.l0
      repeat' first
      | (with_reducible exact ih0 _ _ _ _ _ _ _ _ _)
      | (with_reducible exact shuttleref06_List.mono _ _ _)
      | (with_reducible exact LeO.refl _)
      | (with_reducible exact LeO.none _)
      | (with_reducible refine LeO.ite ?_ ?_)
      | (with_reducible refine LeO.bind ?_ (fun _ => ?_))
      | exact ih0 _ _ _ _ _ _ _ _ _
      | exact shuttleref06_List.mono _ _ _
      | exact LeO.none _
      | refine LeO.ite ?_ ?_
      | refine LeO.bind ?_ (fun _ => ?_)
theorem shuttleref07_Step.mono : ∀ a0 a1 k, LeO (shuttleref07_Step.f k a0 a1) (shuttleref07_Step.f (k + 1) a0 a1) := by
  intro a0 a1 k
  have ih0 := shuttleref07_Step.mono_l k
  unfold shuttleref07_Step.f
  repeat' first
      | (with_reducible exact ih0 _ _ _ _ _ _ _ _ _)
      | (with_reducible exact shuttleref06_List.mono _ _ _)
      | (with_reducible exact LeO.refl _)
      | (with_reducible exact LeO.none _)
      | (with_reducible refine LeO.ite ?_ ?_)
      | (with_reducible refine LeO.bind ?_ (fun _ => ?_))
      | exact ih0 _ _ _ _ _ _ _ _ _
      | exact shuttleref06_List.mono _ _ _
      | exact LeO.none _
      | refine LeO.ite ?_ ?_
      | refine LeO.bind ?_ (fun _ => ?_)
set_option maxHeartbeats 8000000 in
set_option maxRecDepth 100000 in
theorem shuttleref07_Step.calls (k : Nat) (a0 : Int) (a1 : Int) (r1 : Int) (r2 : Int) (r3 : Int) (r4 : Int) (r5 : Int) (r6 : Int) (r7 : Int) (w : World) (h : shuttleref07_Step.f k a0 a1 = some (r1, r2, r3, r4, r5, r6, r7)) :
    Calls Tryd.prog 13 #[.int .i64 a0, .int .u8 a1] w fun e w' => e = .returned (.agg #[.int .i64 r1, .int .i64 r2, .int .u8 r3, .int .u8 r4, .int .u8 r5, .int .u8 r6, .int .u8 r7]) ∧ Below w.heap.size w w' := by
  have hu31 := Tryd.underlying31
  have HB := Aside0.mk (Below.refl w.heap.size w)
  have H : ((shuttleref06_List.f k a0 a1).bind fun t197 => (shuttleref07_Step.l0 k t197 0 a0 (wrap64 ((wrap64 (Int.tdiv a0 2)) + (wrap64 (32 * (wrap64 (a1)))))) a1 0 0 0 0)) = some (r1, r2, r3, r4, r5, r6, r7) := h
  clear h
  replace H := Option.bind_eq_some_iff.mp H
  obtain ⟨t197, A30, H⟩ := H
  replace H : (shuttleref07_Step.l0 k t197 0 a0 (wrap64 ((wrap64 (Int.tdiv a0 2)) + (wrap64 (32 * (wrap64 (a1)))))) a1 0 0 0 0) = some (r1, r2, r3, r4, r5, r6, r7) := H
  have A3 := Aside0.mk A30
  clear A30
  have H' := Aside0.mk H
  clear H
  go_enter Tryd.func13, Tryd.ntmps13
  go_wp2_with (first | ((with_reducible refine gate_dst (N := 4) rfl ?_); refine box_event ?hg (N := 4) ?hd (cs := #[.int .i64 0, .int .i64 0, .int .u8 0, .int .u8 0, .int .u8 0, .int .u8 0, .int .u8 0]) (t := 31) ?hr ?_; (case hd => rfl); (case hg => rfl); (case hr => first | (go_simp; done) | (go_simp; rfl)); intro gb195 hg w4 hbox hb; have n0_ := Aside0.mk (below_step (by repeat (first | (with_reducible first | exact HB.out | apply below_alloc | apply pw_below_drewN | apply below_drew1) | exact HB.out)) hb); have n1_ := Aside0.mk (hbox); have n2_ := Aside0.mk ((by rw [hg]; exact (below_size (by repeat (first | (with_reducible first | exact HB.out | apply below_alloc | apply pw_below_drewN | apply below_drew1) | exact HB.out))) : w.heap.size ≤ gb195)); have n3_ := Aside0.mk ((by rw [hg]; exact (below_size (by repeat (first | (with_reducible first | exact HB.out | apply below_alloc | apply pw_below_drewN | apply below_drew1) | exact HB.out))) : w.heap.size ≤ gb195)); clear HB; have HB := n0_; have BK195 := n1_; have GW195 := n2_; have GE195 := n3_; clear n0_ n1_ n2_ n3_; clear hb hbox hg) | ((with_reducible refine gate_dst (N := 5) rfl ?_); refine box_event ?hg (N := 5) ?hd (cs := #[.int .i64 0, .int .i64 0, .int .u8 0, .int .u8 0, .int .u8 0, .int .u8 0, .int .u8 0]) (t := 31) ?hr ?_; (case hd => rfl); (case hg => rfl); (case hr => first | (go_simp; done) | (go_simp; rfl)); intro gb196 hg w5 hbox hb; have n0_ := Aside0.mk (blk_below (g := gb195) (o := .cells #[.int .i64 0, .int .i64 0, .int .u8 0, .int .u8 0, .int .u8 0, .int .u8 0, .int .u8 0] 31 (0, 0)) (by (with_reducible repeat (first | refine blk_drewN ?_ _ | refine blk_drew ?_ | refine blk_alloc ?_ _)); exact BK195.out) hb); have n1_ := Aside0.mk (below_step (by repeat (first | (with_reducible first | exact HB.out | apply below_alloc | apply pw_below_drewN | apply below_drew1 | refine below_set ?_ GE195.out) | exact HB.out)) hb); have n2_ := Aside0.mk (hbox); have n3_ := Aside0.mk ((by rw [hg]; exact (below_size (by repeat (first | (with_reducible first | exact HB.out | apply below_alloc | apply pw_below_drewN | apply below_drew1 | refine below_set ?_ GE195.out) | exact HB.out))) : w.heap.size ≤ gb196)); have n4_ := Aside0.mk ((by rw [hg]; exact (below_size (by repeat (first | (with_reducible first | exact HB.out | apply below_alloc | apply pw_below_drewN | apply below_drew1 | refine below_set ?_ GE195.out) | exact HB.out))) : w.heap.size ≤ gb196)); have n5_ := Aside0.mk ((by rw [hg]; exact Nat.ne_of_lt (blk_lt (g := gb195) (o := .cells #[.int .i64 0, .int .i64 0, .int .u8 0, .int .u8 0, .int .u8 0, .int .u8 0, .int .u8 0] 31 (0, 0)) (by (with_reducible repeat (first | refine blk_drewN ?_ _ | refine blk_drew ?_ | refine blk_alloc ?_ _)); exact BK195.out)) : gb195 ≠ gb196)); have n6_ := Aside0.mk ((by rw [hg]; exact Nat.ne_of_gt (blk_lt (g := gb195) (o := .cells #[.int .i64 0, .int .i64 0, .int .u8 0, .int .u8 0, .int .u8 0, .int .u8 0, .int .u8 0] 31 (0, 0)) (by (with_reducible repeat (first | refine blk_drewN ?_ _ | refine blk_drew ?_ | refine blk_alloc ?_ _)); exact BK195.out)) : gb196 ≠ gb195)); clear BK195; clear HB; have BK195 := n0_; have HB := n1_; have BK196 := n2_; have GW196 := n3_; have GE196 := n4_; have NB195_196 := n5_; have NB196_195 := n6_; clear n0_ n1_ n2_ n3_ n4_ n5_ n6_; clear hb hbox hg; have hnb6 := NB196_195.out; have hnc6 := NB195_196.out; have hcz7_0 : w5.cell? ⟨gb196, 0, none⟩ = some (.int .i64 0) := (blk_cell BK196.out 0).trans rfl; have hcz7_1 : w5.cell? ⟨gb196, 1, none⟩ = some (.int .i64 0) := (blk_cell BK196.out 1).trans rfl; have hcz7_2 : w5.cell? ⟨gb196, 2, none⟩ = some (.int .u8 0) := (blk_cell BK196.out 2).trans rfl; have hcz7_3 : w5.cell? ⟨gb196, 3, none⟩ = some (.int .u8 0) := (blk_cell BK196.out 3).trans rfl; have hcz7_4 : w5.cell? ⟨gb196, 4, none⟩ = some (.int .u8 0) := (blk_cell BK196.out 4).trans rfl; have hcz7_5 : w5.cell? ⟨gb196, 5, none⟩ = some (.int .u8 0) := (blk_cell BK196.out 5).trans rfl; have hcz7_6 : w5.cell? ⟨gb196, 6, none⟩ = some (.int .u8 0) := (blk_cell BK196.out 6).trans rfl; have hfz7_0 := blk_frozen BK196.out 0; have hfz7_1 := blk_frozen BK196.out 1; have hfz7_2 := blk_frozen BK196.out 2; have hfz7_3 := blk_frozen BK196.out 3; have hfz7_4 := blk_frozen BK196.out 4; have hfz7_5 := blk_frozen BK196.out 5; have hfz7_6 := blk_frozen BK196.out 6) | ((with_reducible refine gate_callee (f := 26) rfl ?_); refine goesL_ (some 19) rfl rfl Tryd.func26 (by kernel_rfl) rfl #[.int .i64 a0, .int .u8 a1] rfl (by (try simp only [List.map_toArray, List.map_cons, List.map_nil]); first | done | rfl | (simp only [List.length_drop, List.length_take]; rfl)) ?_; (with_reducible refine (shuttleref06_List.calls k a0 a1 t197 _ A3.out).mono ?_); rintro e w8 ⟨v198, rfl, ho0, hb⟩; refine ⟨_, rfl, ?_⟩; have n0_ := Aside0.mk (Kd.R_lower ho0 (below_size (by repeat (first | (with_reducible first | exact HB.out | apply below_alloc | apply pw_below_drewN | apply below_drew1 | refine below_set ?_ GE195.out | refine below_set ?_ GE196.out) | exact HB.out)))); have n1_ := Aside0.mk (blk_below (g := gb195) (o := .cells #[.int .i64 0, .int .i64 0, .int .u8 0, .int .u8 0, .int .u8 0, .int .u8 0, .int .u8 0] 31 (0, 0)) (by (with_reducible repeat (first | refine blk_drewN ?_ _ | refine blk_drew ?_ | refine blk_alloc ?_ _)); refine blk_far ?_ NB195_196.out _; (with_reducible repeat (first | refine blk_drewN ?_ _ | refine blk_drew ?_ | refine blk_alloc ?_ _)); refine blk_far ?_ NB195_196.out _; (with_reducible repeat (first | refine blk_drewN ?_ _ | refine blk_drew ?_ | refine blk_alloc ?_ _)); refine blk_far ?_ NB195_196.out _; (with_reducible repeat (first | refine blk_drewN ?_ _ | refine blk_drew ?_ | refine blk_alloc ?_ _)); refine blk_far ?_ NB195_196.out _; (with_reducible repeat (first | refine blk_drewN ?_ _ | refine blk_drew ?_ | refine blk_alloc ?_ _)); refine blk_far ?_ NB195_196.out _; (with_reducible repeat (first | refine blk_drewN ?_ _ | refine blk_drew ?_ | refine blk_alloc ?_ _)); refine blk_far ?_ NB195_196.out _; (with_reducible repeat (first | refine blk_drewN ?_ _ | refine blk_drew ?_ | refine blk_alloc ?_ _)); refine blk_far ?_ NB195_196.out _; (with_reducible repeat (first | refine blk_drewN ?_ _ | refine blk_drew ?_ | refine blk_alloc ?_ _)); exact BK195.out) hb); have n2_ := Aside0.mk (blk_below (g := gb196) (o := .cells #[.int .i64 a0, .int .i64 (wrap64 ((wrap64 (Int.tdiv a0 2)) + (wrap64 (32 * (wrap64 (a1)))))), .int .u8 a1, .int .u8 0, .int .u8 0, .int .u8 0, .int .u8 0] 31 (0, 0)) (by (with_reducible repeat (first | refine blk_drewN ?_ _ | refine blk_drew ?_ | refine blk_alloc ?_ _)); refine blk_put (cs := #[.int .i64 a0, .int .i64 (wrap64 ((wrap64 (Int.tdiv a0 2)) + (wrap64 (32 * (wrap64 (a1)))))), .int .u8 a1, .int .u8 0, .int .u8 0, .int .u8 0, .int .u8 0]) ?_ 6 _ rfl; (with_reducible repeat (first | refine blk_drewN ?_ _ | refine blk_drew ?_ | refine blk_alloc ?_ _)); refine blk_put (cs := #[.int .i64 a0, .int .i64 (wrap64 ((wrap64 (Int.tdiv a0 2)) + (wrap64 (32 * (wrap64 (a1)))))), .int .u8 a1, .int .u8 0, .int .u8 0, .int .u8 0, .int .u8 0]) ?_ 5 _ rfl; (with_reducible repeat (first | refine blk_drewN ?_ _ | refine blk_drew ?_ | refine blk_alloc ?_ _)); refine blk_put (cs := #[.int .i64 a0, .int .i64 (wrap64 ((wrap64 (Int.tdiv a0 2)) + (wrap64 (32 * (wrap64 (a1)))))), .int .u8 a1, .int .u8 0, .int .u8 0, .int .u8 0, .int .u8 0]) ?_ 4 _ rfl; (with_reducible repeat (first | refine blk_drewN ?_ _ | refine blk_drew ?_ | refine blk_alloc ?_ _)); refine blk_put (cs := #[.int .i64 a0, .int .i64 (wrap64 ((wrap64 (Int.tdiv a0 2)) + (wrap64 (32 * (wrap64 (a1)))))), .int .u8 a1, .int .u8 0, .int .u8 0, .int .u8 0, .int .u8 0]) ?_ 3 _ rfl; (with_reducible repeat (first | refine blk_drewN ?_ _ | refine blk_drew ?_ | refine blk_alloc ?_ _)); refine blk_put (cs := #[.int .i64 a0, .int .i64 (wrap64 ((wrap64 (Int.tdiv a0 2)) + (wrap64 (32 * (wrap64 (a1)))))), .int .u8 0, .int .u8 0, .int .u8 0, .int .u8 0, .int .u8 0]) ?_ 2 _ rfl; (with_reducible repeat (first | refine blk_drewN ?_ _ | refine blk_drew ?_ | refine blk_alloc ?_ _)); refine blk_put (cs := #[.int .i64 a0, .int .i64 0, .int .u8 0, .int .u8 0, .int .u8 0, .int .u8 0, .int .u8 0]) ?_ 1 _ rfl; (with_reducible repeat (first | refine blk_drewN ?_ _ | refine blk_drew ?_ | refine blk_alloc ?_ _)); refine blk_put (cs := #[.int .i64 0, .int .i64 0, .int .u8 0, .int .u8 0, .int .u8 0, .int .u8 0, .int .u8 0]) ?_ 0 _ rfl; (with_reducible repeat (first | refine blk_drewN ?_ _ | refine blk_drew ?_ | refine blk_alloc ?_ _)); exact BK196.out) hb); have n3_ := Aside0.mk (below_step (by repeat (first | (with_reducible first | exact HB.out | apply below_alloc | apply pw_below_drewN | apply below_drew1 | refine below_set ?_ GE195.out | refine below_set ?_ GE196.out) | exact HB.out)) hb); clear BK195; clear BK196; clear HB; have HO199 := n0_; have BK195 := n1_; have BK196 := n2_; have HB := n3_; clear n0_ n1_ n2_ n3_; (try clear hb); (try clear hb2); (try clear hk); (try clear hi); (try clear ho0)))
  go_loopg [7] k (fun kq v7 w' => ∃ (x7_1 : Int) (x197003_1 : Int) (x197004_1 : Int) (x197005_1 : Int) (x197006_1 : Int), v7 = .int .i64 x7_1 ∧ Aside0 (shuttleref07_Step.l0 kq t197 x7_1 a0 (wrap64 ((wrap64 (Int.tdiv a0 2)) + (wrap64 (32 * (wrap64 (a1)))))) a1 x197003_1 x197004_1 x197005_1 x197006_1 = some (r1, r2, r3, r4, r5, r6, r7)) ∧ Aside0 (kq ≤ k) ∧ Aside0 (Kd.R (Kd.int .u8) 5 w' w.heap.size (fun _ => True) v198 t197) ∧ Aside0 (w'.heap[gb195]? = some (.cells #[.int .i64 0, .int .i64 0, .int .u8 0, .int .u8 0, .int .u8 0, .int .u8 0, .int .u8 0] 31 (0, 0))) ∧ Aside0 (w'.heap[gb196]? = some (.cells #[.int .i64 a0, .int .i64 (wrap64 ((wrap64 (Int.tdiv a0 2)) + (wrap64 (32 * (wrap64 (a1)))))), .int .u8 a1, .int .u8 x197003_1, .int .u8 x197004_1, .int .u8 x197005_1, .int .u8 x197006_1] 31 (0, 0))) ∧ Aside0 (Below w.heap.size w w'))
  case atStart => exact ⟨(0), (0), (0), (0), (0), (by first | rfl | (simp; done) | (simp [*]; done)), H', ⟨Nat.le_refl _⟩, ⟨by (with_reducible repeat (first | apply Kd.R_alloc | apply Kd.R_drewN | apply Kd.R_drew)); exact HO199.out⟩, ⟨by (with_reducible repeat (first | refine blk_drewN ?_ _ | refine blk_drew ?_ | refine blk_alloc ?_ _)); exact BK195.out⟩, ⟨by (with_reducible repeat (first | refine blk_drewN ?_ _ | refine blk_drew ?_ | refine blk_alloc ?_ _)); exact BK196.out⟩, ⟨by repeat (first | (with_reducible first | exact HB.out | apply below_alloc | apply pw_below_drewN | apply below_drew1 | refine below_set ?_ GE195.out | refine below_set ?_ GE196.out) | exact HB.out)⟩⟩
  case round =>
    clear H'
    try clear c1
    try clear c2
    try clear p2
    try clear c6
    try clear p6
    try clear hcz7_0
    try clear hcz7_1
    try clear hcz7_2
    try clear hcz7_3
    try clear hcz7_4
    try clear hcz7_5
    try clear hcz7_6
    try clear hfz7_0
    try clear hfz7_1
    try clear hfz7_2
    try clear hfz7_3
    try clear hfz7_4
    try clear hfz7_5
    try clear hfz7_6
    obtain ⟨x7_1, x197003_1, x197004_1, x197005_1, x197006_1, rfl, HA, HK1, HO_6, BK195, BK196, HB⟩ := hrel
    cases gk with
    | zero => exact absurd HA.out (by simp [shuttleref07_Step.l0])
    | succ k1 =>
      have H := HA.out
      clear HA
      simp only [shuttleref07_Step.l0] at H
      by_cases c9 : x7_1 < 4
      · rw [if_pos c9] at H
        have c9b0 : decide (x7_1 < 4) = true := decide_eq_true c9
        clear c9
        replace H := Option.bind_eq_some_iff.mp H
        obtain ⟨t200, A100, H⟩ := H
        replace H : (if x7_1 = 0 then (shuttleref07_Step.l0 k1 t197 (0 + 1) a0 (wrap64 ((wrap64 (Int.tdiv a0 2)) + (wrap64 (32 * (wrap64 (a1)))))) a1 t200 x197004_1 x197005_1 x197006_1) else (if x7_1 = 1 then (shuttleref07_Step.l0 k1 t197 (1 + 1) a0 (wrap64 ((wrap64 (Int.tdiv a0 2)) + (wrap64 (32 * (wrap64 (a1)))))) a1 x197003_1 t200 x197005_1 x197006_1) else (if x7_1 = 2 then (shuttleref07_Step.l0 k1 t197 (2 + 1) a0 (wrap64 ((wrap64 (Int.tdiv a0 2)) + (wrap64 (32 * (wrap64 (a1)))))) a1 x197003_1 x197004_1 t200 x197006_1) else (if x7_1 = 3 then (shuttleref07_Step.l0 k1 t197 (3 + 1) a0 (wrap64 ((wrap64 (Int.tdiv a0 2)) + (wrap64 (32 * (wrap64 (a1)))))) a1 x197003_1 x197004_1 x197005_1 t200) else (none))))) = some (r1, r2, r3, r4, r5, r6, r7) := H
        have A10 := Aside0.mk A100
        clear A100
        by_cases c11 : x7_1 = 0
        · rw [if_pos c11] at H
          subst c11
          have H' := Aside0.mk H
          clear H
          obtain ⟨Ao12, co12, eo12⟩ := Kd.R_slice HO_6.out
          subst eo12
          go_wp2_with (first | ((with_reducible refine gate_callee (f := 27) rfl ?_); refine goesL_ (some 27) rfl rfl Tryd.func27 (by kernel_rfl) rfl #[.slice Ao12 t197.length co12, .int .i64 6, .int .i64 0] rfl (by (try simp only [List.map_toArray, List.map_cons, List.map_nil]); first | done | rfl | (simp only [List.length_drop, List.length_take]; rfl)) ?_; (with_reducible refine (shuttleref06_Bit.calls _ _ t197 6 0 t200 _ ?side1 ?side2 A10.out).mono ?_); (case side1 => repeat (first | exact (Kd.R_reads' HO_6.out).2.2 | (with_reducible refine Kd.C_alloc ?_ _) | (with_reducible refine Kd.C_drewN ?_ _) | (with_reducible refine Kd.C_drew ?_))); (case side2 => exact (Kd.R_reads' HO_6.out).2.1); rintro e w13 ⟨rfl, hb⟩; refine ⟨_, rfl, ?_⟩; have n0_ := Aside0.mk (Kd.R_below (by (with_reducible repeat (first | apply Kd.R_alloc | apply Kd.R_drewN | apply Kd.R_drew)); exact HO_6.out) hb); have n1_ := Aside0.mk (blk_below (g := gb195) (o := .cells #[.int .i64 0, .int .i64 0, .int .u8 0, .int .u8 0, .int .u8 0, .int .u8 0, .int .u8 0] 31 (0, 0)) (by (with_reducible repeat (first | refine blk_drewN ?_ _ | refine blk_drew ?_ | refine blk_alloc ?_ _)); exact BK195.out) hb); have n2_ := Aside0.mk (blk_below (g := gb196) (o := .cells #[.int .i64 a0, .int .i64 (wrap64 ((wrap64 (Int.tdiv a0 2)) + (wrap64 (32 * (wrap64 (a1)))))), .int .u8 a1, .int .u8 x197003_1, .int .u8 x197004_1, .int .u8 x197005_1, .int .u8 x197006_1] 31 (0, 0)) (by (with_reducible repeat (first | refine blk_drewN ?_ _ | refine blk_drew ?_ | refine blk_alloc ?_ _)); exact BK196.out) hb); have n3_ := Aside0.mk (below_step (by repeat (first | (with_reducible first | exact HB.out | apply below_alloc | apply pw_below_drewN | apply below_drew1 | refine below_set ?_ GE195.out | refine below_set ?_ GE196.out) | exact HB.out)) hb); clear HO_6; clear BK195; clear BK196; clear HB; have HO_6 := n0_; have BK195 := n1_; have BK196 := n2_; have HB := n3_; clear n0_ n1_ n2_ n3_; (try clear hb); (try clear hb2); (try clear hk); (try clear hi); have hnb14 := NB196_195.out; have hnc14 := NB195_196.out; have hcz15_0 : w13.cell? ⟨gb196, 0, none⟩ = some (.int .i64 a0) := (blk_cell BK196.out 0).trans rfl; have hcz15_1 : w13.cell? ⟨gb196, 1, none⟩ = some (.int .i64 (wrap64 ((wrap64 (Int.tdiv a0 2)) + (wrap64 (32 * (wrap64 (a1))))))) := (blk_cell BK196.out 1).trans rfl; have hcz15_2 : w13.cell? ⟨gb196, 2, none⟩ = some (.int .u8 a1) := (blk_cell BK196.out 2).trans rfl; have hcz15_3 : w13.cell? ⟨gb196, 3, none⟩ = some (.int .u8 x197003_1) := (blk_cell BK196.out 3).trans rfl; have hcz15_4 : w13.cell? ⟨gb196, 4, none⟩ = some (.int .u8 x197004_1) := (blk_cell BK196.out 4).trans rfl; have hcz15_5 : w13.cell? ⟨gb196, 5, none⟩ = some (.int .u8 x197005_1) := (blk_cell BK196.out 5).trans rfl; have hcz15_6 : w13.cell? ⟨gb196, 6, none⟩ = some (.int .u8 x197006_1) := (blk_cell BK196.out 6).trans rfl; have hfz15_0 := blk_frozen BK196.out 0; have hfz15_1 := blk_frozen BK196.out 1; have hfz15_2 := blk_frozen BK196.out 2; have hfz15_3 := blk_frozen BK196.out 3; have hfz15_4 := blk_frozen BK196.out 4; have hfz15_5 := blk_frozen BK196.out 5; have hfz15_6 := blk_frozen BK196.out 6))
          go_roundg k1
          case measure => have := HK1.out; omega
          case rel => exact ⟨(0 + 1), (t200), (x197004_1), (x197005_1), (x197006_1), (by first | rfl | (simp; done) | (simp [*]; done)), H', ⟨by have := HK1.out; omega⟩, ⟨by (with_reducible repeat (first | apply Kd.R_alloc | apply Kd.R_drewN | apply Kd.R_drew)); exact Kd.R_mono (Kd.R_far (p := ⟨gb196, 3, none⟩) (Kd.R_types HO_6.out BK196.out (by decide)) (fun _ hk => hk.2) (.int .u8 t200)) (fun _ hk => trivial)⟩, ⟨by (with_reducible repeat (first | refine blk_drewN ?_ _ | refine blk_drew ?_ | refine blk_alloc ?_ _)); refine blk_far ?_ NB195_196.out _; (with_reducible repeat (first | refine blk_drewN ?_ _ | refine blk_drew ?_ | refine blk_alloc ?_ _)); exact BK195.out⟩, ⟨by (with_reducible repeat (first | refine blk_drewN ?_ _ | refine blk_drew ?_ | refine blk_alloc ?_ _)); refine blk_put (cs := #[.int .i64 a0, .int .i64 (wrap64 ((wrap64 (Int.tdiv a0 2)) + (wrap64 (32 * (wrap64 (a1)))))), .int .u8 a1, .int .u8 x197003_1, .int .u8 x197004_1, .int .u8 x197005_1, .int .u8 x197006_1]) ?_ 3 _ rfl; (with_reducible repeat (first | refine blk_drewN ?_ _ | refine blk_drew ?_ | refine blk_alloc ?_ _)); exact BK196.out⟩, ⟨by repeat (first | (with_reducible first | exact HB.out | apply below_alloc | apply pw_below_drewN | apply below_drew1 | refine below_set ?_ GE195.out | refine below_set ?_ GE196.out) | exact HB.out)⟩⟩
        · rw [if_neg c11] at H
          clear c11
          by_cases c16 : x7_1 = 1
          · rw [if_pos c16] at H
            subst c16
            have H' := Aside0.mk H
            clear H
            obtain ⟨Ao17, co17, eo17⟩ := Kd.R_slice HO_6.out
            subst eo17
            go_wp2_with (first | ((with_reducible refine gate_callee (f := 27) rfl ?_); refine goesL_ (some 27) rfl rfl Tryd.func27 (by kernel_rfl) rfl #[.slice Ao17 t197.length co17, .int .i64 6, .int .i64 1] rfl (by (try simp only [List.map_toArray, List.map_cons, List.map_nil]); first | done | rfl | (simp only [List.length_drop, List.length_take]; rfl)) ?_; (with_reducible refine (shuttleref06_Bit.calls _ _ t197 6 1 t200 _ ?side1 ?side2 A10.out).mono ?_); (case side1 => repeat (first | exact (Kd.R_reads' HO_6.out).2.2 | (with_reducible refine Kd.C_alloc ?_ _) | (with_reducible refine Kd.C_drewN ?_ _) | (with_reducible refine Kd.C_drew ?_))); (case side2 => exact (Kd.R_reads' HO_6.out).2.1); rintro e w18 ⟨rfl, hb⟩; refine ⟨_, rfl, ?_⟩; have n0_ := Aside0.mk (Kd.R_below (by (with_reducible repeat (first | apply Kd.R_alloc | apply Kd.R_drewN | apply Kd.R_drew)); exact HO_6.out) hb); have n1_ := Aside0.mk (blk_below (g := gb195) (o := .cells #[.int .i64 0, .int .i64 0, .int .u8 0, .int .u8 0, .int .u8 0, .int .u8 0, .int .u8 0] 31 (0, 0)) (by (with_reducible repeat (first | refine blk_drewN ?_ _ | refine blk_drew ?_ | refine blk_alloc ?_ _)); exact BK195.out) hb); have n2_ := Aside0.mk (blk_below (g := gb196) (o := .cells #[.int .i64 a0, .int .i64 (wrap64 ((wrap64 (Int.tdiv a0 2)) + (wrap64 (32 * (wrap64 (a1)))))), .int .u8 a1, .int .u8 x197003_1, .int .u8 x197004_1, .int .u8 x197005_1, .int .u8 x197006_1] 31 (0, 0)) (by (with_reducible repeat (first | refine blk_drewN ?_ _ | refine blk_drew ?_ | refine blk_alloc ?_ _)); exact BK196.out) hb); have n3_ := Aside0.mk (below_step (by repeat (first | (with_reducible first | exact HB.out | apply below_alloc | apply pw_below_drewN | apply below_drew1 | refine below_set ?_ GE195.out | refine below_set ?_ GE196.out) | exact HB.out)) hb); clear HO_6; clear BK195; clear BK196; clear HB; have HO_6 := n0_; have BK195 := n1_; have BK196 := n2_; have HB := n3_; clear n0_ n1_ n2_ n3_; (try clear hb); (try clear hb2); (try clear hk); (try clear hi); have hnb19 := NB196_195.out; have hnc19 := NB195_196.out; have hcz20_0 : w18.cell? ⟨gb196, 0, none⟩ = some (.int .i64 a0) := (blk_cell BK196.out 0).trans rfl; have hcz20_1 : w18.cell? ⟨gb196, 1, none⟩ = some (.int .i64 (wrap64 ((wrap64 (Int.tdiv a0 2)) + (wrap64 (32 * (wrap64 (a1))))))) := (blk_cell BK196.out 1).trans rfl; have hcz20_2 : w18.cell? ⟨gb196, 2, none⟩ = some (.int .u8 a1) := (blk_cell BK196.out 2).trans rfl; have hcz20_3 : w18.cell? ⟨gb196, 3, none⟩ = some (.int .u8 x197003_1) := (blk_cell BK196.out 3).trans rfl; have hcz20_4 : w18.cell? ⟨gb196, 4, none⟩ = some (.int .u8 x197004_1) := (blk_cell BK196.out 4).trans rfl; have hcz20_5 : w18.cell? ⟨gb196, 5, none⟩ = some (.int .u8 x197005_1) := (blk_cell BK196.out 5).trans rfl; have hcz20_6 : w18.cell? ⟨gb196, 6, none⟩ = some (.int .u8 x197006_1) := (blk_cell BK196.out 6).trans rfl; have hfz20_0 := blk_frozen BK196.out 0; have hfz20_1 := blk_frozen BK196.out 1; have hfz20_2 := blk_frozen BK196.out 2; have hfz20_3 := blk_frozen BK196.out 3; have hfz20_4 := blk_frozen BK196.out 4; have hfz20_5 := blk_frozen BK196.out 5; have hfz20_6 := blk_frozen BK196.out 6))
            go_roundg k1
            case measure => have := HK1.out; omega
            case rel => exact ⟨(1 + 1), (x197003_1), (t200), (x197005_1), (x197006_1), (by first | rfl | (simp; done) | (simp [*]; done)), H', ⟨by have := HK1.out; omega⟩, ⟨by (with_reducible repeat (first | apply Kd.R_alloc | apply Kd.R_drewN | apply Kd.R_drew)); exact Kd.R_mono (Kd.R_far (p := ⟨gb196, 4, none⟩) (Kd.R_types HO_6.out BK196.out (by decide)) (fun _ hk => hk.2) (.int .u8 t200)) (fun _ hk => trivial)⟩, ⟨by (with_reducible repeat (first | refine blk_drewN ?_ _ | refine blk_drew ?_ | refine blk_alloc ?_ _)); refine blk_far ?_ NB195_196.out _; (with_reducible repeat (first | refine blk_drewN ?_ _ | refine blk_drew ?_ | refine blk_alloc ?_ _)); exact BK195.out⟩, ⟨by (with_reducible repeat (first | refine blk_drewN ?_ _ | refine blk_drew ?_ | refine blk_alloc ?_ _)); refine blk_put (cs := #[.int .i64 a0, .int .i64 (wrap64 ((wrap64 (Int.tdiv a0 2)) + (wrap64 (32 * (wrap64 (a1)))))), .int .u8 a1, .int .u8 x197003_1, .int .u8 x197004_1, .int .u8 x197005_1, .int .u8 x197006_1]) ?_ 4 _ rfl; (with_reducible repeat (first | refine blk_drewN ?_ _ | refine blk_drew ?_ | refine blk_alloc ?_ _)); exact BK196.out⟩, ⟨by repeat (first | (with_reducible first | exact HB.out | apply below_alloc | apply pw_below_drewN | apply below_drew1 | refine below_set ?_ GE195.out | refine below_set ?_ GE196.out) | exact HB.out)⟩⟩
          · rw [if_neg c16] at H
            clear c16
            by_cases c21 : x7_1 = 2
            · rw [if_pos c21] at H
              subst c21
              have H' := Aside0.mk H
              clear H
              obtain ⟨Ao22, co22, eo22⟩ := Kd.R_slice HO_6.out
              subst eo22
              go_wp2_with (first | ((with_reducible refine gate_callee (f := 27) rfl ?_); refine goesL_ (some 27) rfl rfl Tryd.func27 (by kernel_rfl) rfl #[.slice Ao22 t197.length co22, .int .i64 6, .int .i64 2] rfl (by (try simp only [List.map_toArray, List.map_cons, List.map_nil]); first | done | rfl | (simp only [List.length_drop, List.length_take]; rfl)) ?_; (with_reducible refine (shuttleref06_Bit.calls _ _ t197 6 2 t200 _ ?side1 ?side2 A10.out).mono ?_); (case side1 => repeat (first | exact (Kd.R_reads' HO_6.out).2.2 | (with_reducible refine Kd.C_alloc ?_ _) | (with_reducible refine Kd.C_drewN ?_ _) | (with_reducible refine Kd.C_drew ?_))); (case side2 => exact (Kd.R_reads' HO_6.out).2.1); rintro e w23 ⟨rfl, hb⟩; refine ⟨_, rfl, ?_⟩; have n0_ := Aside0.mk (Kd.R_below (by (with_reducible repeat (first | apply Kd.R_alloc | apply Kd.R_drewN | apply Kd.R_drew)); exact HO_6.out) hb); have n1_ := Aside0.mk (blk_below (g := gb195) (o := .cells #[.int .i64 0, .int .i64 0, .int .u8 0, .int .u8 0, .int .u8 0, .int .u8 0, .int .u8 0] 31 (0, 0)) (by (with_reducible repeat (first | refine blk_drewN ?_ _ | refine blk_drew ?_ | refine blk_alloc ?_ _)); exact BK195.out) hb); have n2_ := Aside0.mk (blk_below (g := gb196) (o := .cells #[.int .i64 a0, .int .i64 (wrap64 ((wrap64 (Int.tdiv a0 2)) + (wrap64 (32 * (wrap64 (a1)))))), .int .u8 a1, .int .u8 x197003_1, .int .u8 x197004_1, .int .u8 x197005_1, .int .u8 x197006_1] 31 (0, 0)) (by (with_reducible repeat (first | refine blk_drewN ?_ _ | refine blk_drew ?_ | refine blk_alloc ?_ _)); exact BK196.out) hb); have n3_ := Aside0.mk (below_step (by repeat (first | (with_reducible first | exact HB.out | apply below_alloc | apply pw_below_drewN | apply below_drew1 | refine below_set ?_ GE195.out | refine below_set ?_ GE196.out) | exact HB.out)) hb); clear HO_6; clear BK195; clear BK196; clear HB; have HO_6 := n0_; have BK195 := n1_; have BK196 := n2_; have HB := n3_; clear n0_ n1_ n2_ n3_; (try clear hb); (try clear hb2); (try clear hk); (try clear hi); have hnb24 := NB196_195.out; have hnc24 := NB195_196.out; have hcz25_0 : w23.cell? ⟨gb196, 0, none⟩ = some (.int .i64 a0) := (blk_cell BK196.out 0).trans rfl; have hcz25_1 : w23.cell? ⟨gb196, 1, none⟩ = some (.int .i64 (wrap64 ((wrap64 (Int.tdiv a0 2)) + (wrap64 (32 * (wrap64 (a1))))))) := (blk_cell BK196.out 1).trans rfl; have hcz25_2 : w23.cell? ⟨gb196, 2, none⟩ = some (.int .u8 a1) := (blk_cell BK196.out 2).trans rfl; have hcz25_3 : w23.cell? ⟨gb196, 3, none⟩ = some (.int .u8 x197003_1) := (blk_cell BK196.out 3).trans rfl; have hcz25_4 : w23.cell? ⟨gb196, 4, none⟩ = some (.int .u8 x197004_1) := (blk_cell BK196.out 4).trans rfl; have hcz25_5 : w23.cell? ⟨gb196, 5, none⟩ = some (.int .u8 x197005_1) := (blk_cell BK196.out 5).trans rfl; have hcz25_6 : w23.cell? ⟨gb196, 6, none⟩ = some (.int .u8 x197006_1) := (blk_cell BK196.out 6).trans rfl; have hfz25_0 := blk_frozen BK196.out 0; have hfz25_1 := blk_frozen BK196.out 1; have hfz25_2 := blk_frozen BK196.out 2; have hfz25_3 := blk_frozen BK196.out 3; have hfz25_4 := blk_frozen BK196.out 4; have hfz25_5 := blk_frozen BK196.out 5; have hfz25_6 := blk_frozen BK196.out 6))
              go_roundg k1
              case measure => have := HK1.out; omega
              case rel => exact ⟨(2 + 1), (x197003_1), (x197004_1), (t200), (x197006_1), (by first | rfl | (simp; done) | (simp [*]; done)), H', ⟨by have := HK1.out; omega⟩, ⟨by (with_reducible repeat (first | apply Kd.R_alloc | apply Kd.R_drewN | apply Kd.R_drew)); exact Kd.R_mono (Kd.R_far (p := ⟨gb196, 5, none⟩) (Kd.R_types HO_6.out BK196.out (by decide)) (fun _ hk => hk.2) (.int .u8 t200)) (fun _ hk => trivial)⟩, ⟨by (with_reducible repeat (first | refine blk_drewN ?_ _ | refine blk_drew ?_ | refine blk_alloc ?_ _)); refine blk_far ?_ NB195_196.out _; (with_reducible repeat (first | refine blk_drewN ?_ _ | refine blk_drew ?_ | refine blk_alloc ?_ _)); exact BK195.out⟩, ⟨by (with_reducible repeat (first | refine blk_drewN ?_ _ | refine blk_drew ?_ | refine blk_alloc ?_ _)); refine blk_put (cs := #[.int .i64 a0, .int .i64 (wrap64 ((wrap64 (Int.tdiv a0 2)) + (wrap64 (32 * (wrap64 (a1)))))), .int .u8 a1, .int .u8 x197003_1, .int .u8 x197004_1, .int .u8 x197005_1, .int .u8 x197006_1]) ?_ 5 _ rfl; (with_reducible repeat (first | refine blk_drewN ?_ _ | refine blk_drew ?_ | refine blk_alloc ?_ _)); exact BK196.out⟩, ⟨by repeat (first | (with_reducible first | exact HB.out | apply below_alloc | apply pw_below_drewN | apply below_drew1 | refine below_set ?_ GE195.out | refine below_set ?_ GE196.out) | exact HB.out)⟩⟩
            · rw [if_neg c21] at H
              clear c21
              by_cases c26 : x7_1 = 3
              · rw [if_pos c26] at H
                subst c26
                have H' := Aside0.mk H
                clear H
                obtain ⟨Ao27, co27, eo27⟩ := Kd.R_slice HO_6.out
                subst eo27
                go_wp2_with (first | ((with_reducible refine gate_callee (f := 27) rfl ?_); refine goesL_ (some 27) rfl rfl Tryd.func27 (by kernel_rfl) rfl #[.slice Ao27 t197.length co27, .int .i64 6, .int .i64 3] rfl (by (try simp only [List.map_toArray, List.map_cons, List.map_nil]); first | done | rfl | (simp only [List.length_drop, List.length_take]; rfl)) ?_; (with_reducible refine (shuttleref06_Bit.calls _ _ t197 6 3 t200 _ ?side1 ?side2 A10.out).mono ?_); (case side1 => repeat (first | exact (Kd.R_reads' HO_6.out).2.2 | (with_reducible refine Kd.C_alloc ?_ _) | (with_reducible refine Kd.C_drewN ?_ _) | (with_reducible refine Kd.C_drew ?_))); (case side2 => exact (Kd.R_reads' HO_6.out).2.1); rintro e w28 ⟨rfl, hb⟩; refine ⟨_, rfl, ?_⟩; have n0_ := Aside0.mk (Kd.R_below (by (with_reducible repeat (first | apply Kd.R_alloc | apply Kd.R_drewN | apply Kd.R_drew)); exact HO_6.out) hb); have n1_ := Aside0.mk (blk_below (g := gb195) (o := .cells #[.int .i64 0, .int .i64 0, .int .u8 0, .int .u8 0, .int .u8 0, .int .u8 0, .int .u8 0] 31 (0, 0)) (by (with_reducible repeat (first | refine blk_drewN ?_ _ | refine blk_drew ?_ | refine blk_alloc ?_ _)); exact BK195.out) hb); have n2_ := Aside0.mk (blk_below (g := gb196) (o := .cells #[.int .i64 a0, .int .i64 (wrap64 ((wrap64 (Int.tdiv a0 2)) + (wrap64 (32 * (wrap64 (a1)))))), .int .u8 a1, .int .u8 x197003_1, .int .u8 x197004_1, .int .u8 x197005_1, .int .u8 x197006_1] 31 (0, 0)) (by (with_reducible repeat (first | refine blk_drewN ?_ _ | refine blk_drew ?_ | refine blk_alloc ?_ _)); exact BK196.out) hb); have n3_ := Aside0.mk (below_step (by repeat (first | (with_reducible first | exact HB.out | apply below_alloc | apply pw_below_drewN | apply below_drew1 | refine below_set ?_ GE195.out | refine below_set ?_ GE196.out) | exact HB.out)) hb); clear HO_6; clear BK195; clear BK196; clear HB; have HO_6 := n0_; have BK195 := n1_; have BK196 := n2_; have HB := n3_; clear n0_ n1_ n2_ n3_; (try clear hb); (try clear hb2); (try clear hk); (try clear hi); have hnb29 := NB196_195.out; have hnc29 := NB195_196.out; have hcz30_0 : w28.cell? ⟨gb196, 0, none⟩ = some (.int .i64 a0) := (blk_cell BK196.out 0).trans rfl; have hcz30_1 : w28.cell? ⟨gb196, 1, none⟩ = some (.int .i64 (wrap64 ((wrap64 (Int.tdiv a0 2)) + (wrap64 (32 * (wrap64 (a1))))))) := (blk_cell BK196.out 1).trans rfl; have hcz30_2 : w28.cell? ⟨gb196, 2, none⟩ = some (.int .u8 a1) := (blk_cell BK196.out 2).trans rfl; have hcz30_3 : w28.cell? ⟨gb196, 3, none⟩ = some (.int .u8 x197003_1) := (blk_cell BK196.out 3).trans rfl; have hcz30_4 : w28.cell? ⟨gb196, 4, none⟩ = some (.int .u8 x197004_1) := (blk_cell BK196.out 4).trans rfl; have hcz30_5 : w28.cell? ⟨gb196, 5, none⟩ = some (.int .u8 x197005_1) := (blk_cell BK196.out 5).trans rfl; have hcz30_6 : w28.cell? ⟨gb196, 6, none⟩ = some (.int .u8 x197006_1) := (blk_cell BK196.out 6).trans rfl; have hfz30_0 := blk_frozen BK196.out 0; have hfz30_1 := blk_frozen BK196.out 1; have hfz30_2 := blk_frozen BK196.out 2; have hfz30_3 := blk_frozen BK196.out 3; have hfz30_4 := blk_frozen BK196.out 4; have hfz30_5 := blk_frozen BK196.out 5; have hfz30_6 := blk_frozen BK196.out 6))
                go_roundg k1
                case measure => have := HK1.out; omega
                case rel => exact ⟨(3 + 1), (x197003_1), (x197004_1), (x197005_1), (t200), (by first | rfl | (simp; done) | (simp [*]; done)), H', ⟨by have := HK1.out; omega⟩, ⟨by (with_reducible repeat (first | apply Kd.R_alloc | apply Kd.R_drewN | apply Kd.R_drew)); exact Kd.R_mono (Kd.R_far (p := ⟨gb196, 6, none⟩) (Kd.R_types HO_6.out BK196.out (by decide)) (fun _ hk => hk.2) (.int .u8 t200)) (fun _ hk => trivial)⟩, ⟨by (with_reducible repeat (first | refine blk_drewN ?_ _ | refine blk_drew ?_ | refine blk_alloc ?_ _)); refine blk_far ?_ NB195_196.out _; (with_reducible repeat (first | refine blk_drewN ?_ _ | refine blk_drew ?_ | refine blk_alloc ?_ _)); exact BK195.out⟩, ⟨by (with_reducible repeat (first | refine blk_drewN ?_ _ | refine blk_drew ?_ | refine blk_alloc ?_ _)); refine blk_put (cs := #[.int .i64 a0, .int .i64 (wrap64 ((wrap64 (Int.tdiv a0 2)) + (wrap64 (32 * (wrap64 (a1)))))), .int .u8 a1, .int .u8 x197003_1, .int .u8 x197004_1, .int .u8 x197005_1, .int .u8 x197006_1]) ?_ 6 _ rfl; (with_reducible repeat (first | refine blk_drewN ?_ _ | refine blk_drew ?_ | refine blk_alloc ?_ _)); exact BK196.out⟩, ⟨by repeat (first | (with_reducible first | exact HB.out | apply below_alloc | apply pw_below_drewN | apply below_drew1 | refine below_set ?_ GE195.out | refine below_set ?_ GE196.out) | exact HB.out)⟩⟩
              · rw [if_neg c26] at H
                clear c26
                exact absurd H (by simp)
      · rw [if_neg c9] at H
        have c9b0 : decide (x7_1 < 4) = false := decide_eq_false c9
        clear c9
        simp only [Option.some.injEq, Prod.mk.injEq] at H
        obtain ⟨rfl, rfl, rfl, rfl, rfl, rfl, rfl⟩ := H
        have hnb31 := NB196_195.out
        have hnc31 := NB195_196.out
        have hcz32_0 : wr.cell? ⟨gb196, 0, none⟩ = some (.int .i64 a0) := (blk_cell BK196.out 0).trans rfl
        have hcz32_1 : wr.cell? ⟨gb196, 1, none⟩ = some (.int .i64 (wrap64 ((wrap64 (Int.tdiv a0 2)) + (wrap64 (32 * (wrap64 (a1))))))) := (blk_cell BK196.out 1).trans rfl
        have hcz32_2 : wr.cell? ⟨gb196, 2, none⟩ = some (.int .u8 a1) := (blk_cell BK196.out 2).trans rfl
        have hcz32_3 : wr.cell? ⟨gb196, 3, none⟩ = some (.int .u8 x197003_1) := (blk_cell BK196.out 3).trans rfl
        have hcz32_4 : wr.cell? ⟨gb196, 4, none⟩ = some (.int .u8 x197004_1) := (blk_cell BK196.out 4).trans rfl
        have hcz32_5 : wr.cell? ⟨gb196, 5, none⟩ = some (.int .u8 x197005_1) := (blk_cell BK196.out 5).trans rfl
        have hcz32_6 : wr.cell? ⟨gb196, 6, none⟩ = some (.int .u8 x197006_1) := (blk_cell BK196.out 6).trans rfl
        have hfz32_0 := blk_frozen BK196.out 0
        have hfz32_1 := blk_frozen BK196.out 1
        have hfz32_2 := blk_frozen BK196.out 2
        have hfz32_3 := blk_frozen BK196.out 3
        have hfz32_4 := blk_frozen BK196.out 4
        have hfz32_5 := blk_frozen BK196.out 5
        have hfz32_6 := blk_frozen BK196.out 6
        have hcz33_0 : wr.cell? ⟨gb195, 0, none⟩ = some (.int .i64 0) := (blk_cell BK195.out 0).trans rfl
        have hcz33_1 : wr.cell? ⟨gb195, 1, none⟩ = some (.int .i64 0) := (blk_cell BK195.out 1).trans rfl
        have hcz33_2 : wr.cell? ⟨gb195, 2, none⟩ = some (.int .u8 0) := (blk_cell BK195.out 2).trans rfl
        have hcz33_3 : wr.cell? ⟨gb195, 3, none⟩ = some (.int .u8 0) := (blk_cell BK195.out 3).trans rfl
        have hcz33_4 : wr.cell? ⟨gb195, 4, none⟩ = some (.int .u8 0) := (blk_cell BK195.out 4).trans rfl
        have hcz33_5 : wr.cell? ⟨gb195, 5, none⟩ = some (.int .u8 0) := (blk_cell BK195.out 5).trans rfl
        have hcz33_6 : wr.cell? ⟨gb195, 6, none⟩ = some (.int .u8 0) := (blk_cell BK195.out 6).trans rfl
        have hfz33_0 := blk_frozen BK195.out 0
        have hfz33_1 := blk_frozen BK195.out 1
        have hfz33_2 := blk_frozen BK195.out 2
        have hfz33_3 := blk_frozen BK195.out 3
        have hfz33_4 := blk_frozen BK195.out 4
        have hfz33_5 := blk_frozen BK195.out 5
        have hfz33_6 := blk_frozen BK195.out 6
        go_wp2
        refine bodyPost_ret (results_cell_row rfl _ _ gb195 31 #[.int .i64 a0, .int .i64 (wrap64 ((wrap64 (Int.tdiv a0 2)) + (wrap64 (32 * (wrap64 (a1)))))), .int .u8 a1, .int .u8 x197003_1, .int .u8 x197004_1, .int .u8 x197005_1, .int .u8 x197006_1] (0, 0) _ rfl (by (with_reducible repeat (first | refine blk_drewN ?_ _ | refine blk_drew ?_ | refine blk_alloc ?_ _)); refine blk_put (cs := #[.int .i64 a0, .int .i64 (wrap64 ((wrap64 (Int.tdiv a0 2)) + (wrap64 (32 * (wrap64 (a1)))))), .int .u8 a1, .int .u8 x197003_1, .int .u8 x197004_1, .int .u8 x197005_1, .int .u8 0]) ?_ 6 _ rfl; (with_reducible repeat (first | refine blk_drewN ?_ _ | refine blk_drew ?_ | refine blk_alloc ?_ _)); refine blk_put (cs := #[.int .i64 a0, .int .i64 (wrap64 ((wrap64 (Int.tdiv a0 2)) + (wrap64 (32 * (wrap64 (a1)))))), .int .u8 a1, .int .u8 x197003_1, .int .u8 x197004_1, .int .u8 0, .int .u8 0]) ?_ 5 _ rfl; (with_reducible repeat (first | refine blk_drewN ?_ _ | refine blk_drew ?_ | refine blk_alloc ?_ _)); refine blk_put (cs := #[.int .i64 a0, .int .i64 (wrap64 ((wrap64 (Int.tdiv a0 2)) + (wrap64 (32 * (wrap64 (a1)))))), .int .u8 a1, .int .u8 x197003_1, .int .u8 0, .int .u8 0, .int .u8 0]) ?_ 4 _ rfl; (with_reducible repeat (first | refine blk_drewN ?_ _ | refine blk_drew ?_ | refine blk_alloc ?_ _)); refine blk_put (cs := #[.int .i64 a0, .int .i64 (wrap64 ((wrap64 (Int.tdiv a0 2)) + (wrap64 (32 * (wrap64 (a1)))))), .int .u8 a1, .int .u8 0, .int .u8 0, .int .u8 0, .int .u8 0]) ?_ 3 _ rfl; (with_reducible repeat (first | refine blk_drewN ?_ _ | refine blk_drew ?_ | refine blk_alloc ?_ _)); refine blk_put (cs := #[.int .i64 a0, .int .i64 (wrap64 ((wrap64 (Int.tdiv a0 2)) + (wrap64 (32 * (wrap64 (a1)))))), .int .u8 0, .int .u8 0, .int .u8 0, .int .u8 0, .int .u8 0]) ?_ 2 _ rfl; (with_reducible repeat (first | refine blk_drewN ?_ _ | refine blk_drew ?_ | refine blk_alloc ?_ _)); refine blk_put (cs := #[.int .i64 a0, .int .i64 0, .int .u8 0, .int .u8 0, .int .u8 0, .int .u8 0, .int .u8 0]) ?_ 1 _ rfl; (with_reducible repeat (first | refine blk_drewN ?_ _ | refine blk_drew ?_ | refine blk_alloc ?_ _)); refine blk_put (cs := #[.int .i64 0, .int .i64 0, .int .u8 0, .int .u8 0, .int .u8 0, .int .u8 0, .int .u8 0]) ?_ 0 _ rfl; (with_reducible repeat (first | refine blk_drewN ?_ _ | refine blk_drew ?_ | refine blk_alloc ?_ _)); exact BK195.out) Tryd.underlying31 rfl (by kernel_rfl)) rfl ?_
        exact ⟨by first | rfl | (simp [errW_none, errW_some] <;> rfl) | (simp [*, errW_none, errW_some] <;> rfl), by repeat (first | (with_reducible first | exact HB.out | apply below_alloc | apply pw_below_drewN | apply below_drew1 | refine below_set ?_ GE195.out | refine below_set ?_ GE196.out) | exact HB.out)⟩

end Go.Proofs.YtmajbcglpcagoaaDoor.X

-- YtmajbcglpcagoaaDoorX30
namespace Go.Proofs.YtmajbcglpcagoaaDoor.X
open Go.RowKit Go.Proofs.YtmajbcglpcagoaaDoorW.PrintWords Go.Proofs.YtmajbcglpcagoaaDoorW.PrintLast Go.Proofs.YtmajbcglpcagoaaDoorW.PrintMore
attribute [local go_sem] max2_int min2_int max_two min_two max_three min_three max_four min_four   -- for this text's walks alone
set_option linter.unusedVariables false
set_option linter.unusedSimpArgs false

/-! ### shuttleref07_Path: function 16 -/
def shuttleref07_Path.l0 : Nat → List Int → List (S31) → Int → Int → Option ((List (S31)))
  | 0, _, _, _, _ => none
  | k + 1, x0, x3, x4, x5 => if x5 < (wrap64 ((x0.length : Int) + 6)) then (if x5 < (x0.length : Int) then (if 0 ≤ x5 then ((shuttleref07_Step.f k x4 (rd x0 x5)).bind fun bt374 => (if x3.length < 5864062014805 then (shuttleref07_Path.l0 k x0 (x3 ++ [(⟨bt374.1, bt374.2.1, bt374.2.2.1, (⟨bt374.2.2.2.1, bt374.2.2.2.2.1, bt374.2.2.2.2.2.1, bt374.2.2.2.2.2.2⟩ : S22)⟩ : S31)]) bt374.2.1 (wrap64 (x5 + 1))) else (none))) else (none)) else ((shuttleref07_Step.f k x4 0).bind fun bt385 => (if x3.length < 5864062014805 then (shuttleref07_Path.l0 k x0 (x3 ++ [(⟨bt385.1, bt385.2.1, bt385.2.2.1, (⟨bt385.2.2.2.1, bt385.2.2.2.2.1, bt385.2.2.2.2.2.1, bt385.2.2.2.2.2.2⟩ : S22)⟩ : S31)]) bt385.2.1 (wrap64 (x5 + 1))) else (none)))) else (some x3)
def shuttleref07_Path.f (k : Nat) (l0 : List Int) : Option ((List (S31))) := shuttleref07_Path.l0 k l0 ([] : List (S31)) 0 0
theorem shuttleref07_Path.mono_l : ∀ k, (∀ y0 y1 y2 y3, LeO (shuttleref07_Path.l0 k y0 y1 y2 y3) (shuttleref07_Path.l0 (k + 1) y0 y1 y2 y3))
  | 0 => fun _ _ _ _ r h => by simp [shuttleref07_Path.l0] at h
  | k + 1 => by
    have ih0 := shuttleref07_Path.mono_l k
    · intro y0 y1 y2 y3
      unfold shuttleref07_Path.l0
      repeat' first
      | (with_reducible exact ih0 _ _ _ _)
      | (with_reducible exact shuttleref07_Step.mono _ _ _)
      | (with_reducible exact LeO.refl _)
      | (with_reducible exact LeO.none _)
      | (with_reducible refine LeO.ite ?_ ?_)
      | (with_reducible refine LeO.bind ?_ (fun _ => ?_))
      | exact ih0 _ _ _ _
      | exact shuttleref07_Step.mono _ _ _
      | exact LeO.none _
      | refine LeO.ite ?_ ?_
      | refine LeO.bind ?_ (fun _ => ?_)
theorem shuttleref07_Path.mono : ∀ a0 k, LeO (shuttleref07_Path.f k a0) (shuttleref07_Path.f (k + 1) a0) := by
  intro a0 k
  have ih0 := shuttleref07_Path.mono_l k
  unfold shuttleref07_Path.f
  repeat' first
      | (with_reducible exact ih0 _ _ _ _)
      | (with_reducible exact shuttleref07_Step.mono _ _ _)
      | (with_reducible exact LeO.refl _)
      | (with_reducible exact LeO.none _)
      | (with_reducible refine LeO.ite ?_ ?_)
      | (with_reducible refine LeO.bind ?_ (fun _ => ?_))
      | exact ih0 _ _ _ _
      | exact shuttleref07_Step.mono _ _ _
      | exact LeO.none _
      | refine LeO.ite ?_ ?_
      | refine LeO.bind ?_ (fun _ => ?_)
set_option maxHeartbeats 8000000 in
set_option maxRecDepth 100000 in
theorem shuttleref07_Path.calls (k : Nat) (A0 : Option Addr) (c0 : Nat) (l0 : List Int) (r : List (S31)) (w : World) (hr0 : Kd.C (Kd.int .u8) w A0 l0.length l0) (hc0 : l0.length ≤ c0) (h : shuttleref07_Path.f k l0 = some r) :
    Calls Tryd.prog 16 #[.slice A0 l0.length c0] w fun e w' => ∃ v0_ : Value, e = .returned (v0_) ∧ Kd.R k31 31 w' w.heap.size (fun _ => True) v0_ r ∧ Below w.heap.size w w' := by
  have hu31 := Tryd.underlying31
  have HR0 := Aside0.mk hr0
  have HC0 := Aside0.mk hc0
  clear hr0 hc0
  have HB := Aside0.mk (Below.refl w.heap.size w)
  have H : (shuttleref07_Path.l0 k l0 ([] : List (S31)) 0 0) = some r := h
  clear h
  have H' := Aside0.mk H
  clear H
  go_enter Tryd.func16, Tryd.ntmps16
  go_wp2
  go_loopg [3, 4, 5] k (fun kq v3 v4 v5 w' => ∃ (x3_1 : List (S31)) (x4_1 : Int) (x5_1 : Int), v4 = .int .i64 x4_1 ∧ v5 = .int .i64 x5_1 ∧ Aside0 (shuttleref07_Path.l0 kq l0 x3_1 x4_1 x5_1 = some r) ∧ Aside0 (kq ≤ k) ∧ Aside0 (Kd.R k31 31 w' w.heap.size (fun _ => True) v3 x3_1) ∧ Aside0 (Below w.heap.size w w'))
  case atStart => exact ⟨(([] : List (S31))), (0), (0), (by first | rfl | (simp; done) | (simp [*]; done)), (by first | rfl | (simp; done) | (simp [*]; done)), H', ⟨Nat.le_refl _⟩, ⟨by first | exact Kd.R_nil _ _ _ _ _ | exact Kd.N_nil _ _ _ _ _ | exact Kd.V_nil _ _ _ _ _ | exact Kd.Q_nil _ _ _ _ _ | exact Kd.S_nil _ _ _ _ _⟩, ⟨by repeat (first | (with_reducible first | exact HB.out | apply below_alloc | apply pw_below_drewN | apply below_drew1) | exact HB.out)⟩⟩
  case round =>
    clear H'
    try clear c1
    obtain ⟨x3_1, x4_1, x5_1, rfl, rfl, HA, HK1, HO_3, HB⟩ := hrel
    cases gk with
    | zero => exact absurd HA.out (by simp [shuttleref07_Path.l0])
    | succ k1 =>
      have H := HA.out
      clear HA
      simp only [shuttleref07_Path.l0] at H
      by_cases c2 : x5_1 < (wrap64 ((l0.length : Int) + 6))
      · rw [if_pos c2] at H
        have c2b0 : decide (x5_1 < (wrap64 ((l0.length : Int) + 6))) = true := decide_eq_true c2
        clear c2
        by_cases c3 : x5_1 < (l0.length : Int)
        · rw [if_pos c3] at H
          have c3b0 : decide (x5_1 < (l0.length : Int)) = true := decide_eq_true c3
          clear c3
          by_cases c4 : 0 ≤ x5_1
          · rw [if_pos c4] at H
            have c4b0 : decide (0 ≤ x5_1) = true := decide_eq_true c4
            clear c4
            replace H := Option.bind_eq_some_iff.mp H
            obtain ⟨⟨t374, t375, t376, t377, t378, t379, t380⟩, A50, H⟩ := H
            replace H : (if x3_1.length < 5864062014805 then (shuttleref07_Path.l0 k1 l0 (x3_1 ++ [(⟨t374, t375, t376, (⟨t377, t378, t379, t380⟩ : S22)⟩ : S31)]) t375 (wrap64 (x5_1 + 1))) else (none)) = some r := H
            have A5 := Aside0.mk A50
            clear A50
            by_cases c6 : x3_1.length < 5864062014805
            · rw [if_pos c6] at H
              have LMc6 := Aside0.mk c6
              clear c6
              obtain ⟨y382, hy382⟩ : ∃ y_ : List (S31), y_ = (x3_1 ++ [(⟨t374, t375, t376, (⟨t377, t378, t379, t380⟩ : S22)⟩ : S31)]) := ⟨_, rfl⟩
              replace H : (shuttleref07_Path.l0 k1 l0 y382 t375 (wrap64 (x5_1 + 1))) = some r := by first | (rw [hy382]; with_reducible exact H) | (have H2_ := (Option.bind_some _ _).symm.trans H; rw [hy382]; with_reducible exact H2_) | (have H2_ := (Option.bind_some _ _).symm.trans H; with_reducible exact H2_) | with_reducible exact H | (rw [hy382]; exact H) | exact H
              have Ny382 := Aside0.mk hy382
              clear hy382
              have H' := Aside0.mk H
              clear H
              have p373 : 0 ≤ (x5_1 : Int) := of_decide_eq_true (by first | (with_reducible assumption) | assumption)
              have q373 : x5_1 < (l0.length : Int) := of_decide_eq_true (by first | (with_reducible assumption) | assumption)
              obtain ⟨ad373, e373, hx373_0⟩ := Kd.at_int HR0.out x5_1 p373 q373
              cases e373
              replace hx373_0 := (HB.out.cell (World.block_lt_of_cell? w _ hx373_0)).trans hx373_0
              replace p373 := eq_true p373
              replace q373 := eq_true q373
              go_wp2_with (first | ((with_reducible refine gate_callee (f := 13) rfl ?_); refine goesL_ (some 25) rfl rfl Tryd.func13 (by kernel_rfl) rfl #[.int .i64 x4_1, .int .u8 (rd l0 x5_1)] rfl (by (try simp only [List.map_toArray, List.map_cons, List.map_nil]); first | done | rfl | (simp only [List.length_drop, List.length_take]; rfl)) ?_; (with_reducible refine (shuttleref07_Step.calls k1 x4_1 (rd l0 x5_1) t374 t375 t376 t377 t378 t379 t380 _ A5.out).mono ?_); rintro e w7 ⟨rfl, hb⟩; refine ⟨_, rfl, ?_⟩; have n0_ := Aside0.mk (Kd.R_below (by (with_reducible repeat (first | apply Kd.R_alloc | apply Kd.R_drewN | apply Kd.R_drew)); exact HO_3.out) hb); have n1_ := Aside0.mk (below_step (by repeat (first | (with_reducible first | exact HB.out | apply below_alloc | apply pw_below_drewN | apply below_drew1) | exact HB.out)) hb); clear HO_3; clear HB; have HO_3 := n0_; have HB := n1_; clear n0_ n1_; (try clear hb); (try clear hb2); (try clear hk); (try clear hi)) | ((with_reducible refine gate_dst (N := 7) rfl ?_); refine box_event ?hg (N := 7) ?hd (cs := #[.int .i64 0, .int .i64 0, .int .u8 0, .int .u8 0, .int .u8 0, .int .u8 0, .int .u8 0]) (t := 31) ?hr ?_; (case hd => rfl); (case hg => rfl); (case hr => first | (go_simp; done) | (go_simp; rfl)); intro gb381 hg w8 hbox hb; have n0_ := Aside0.mk (Kd.R_below (Kd.R_elderB (by (with_reducible repeat (first | apply Kd.R_alloc | apply Kd.R_drewN | apply Kd.R_drew)); exact HO_3.out) gb381 (Nat.le_of_eq hg.symm)) hb); have n1_ := Aside0.mk (below_step (by repeat (first | (with_reducible first | exact HB.out | apply below_alloc | apply pw_below_drewN | apply below_drew1) | exact HB.out)) hb); have n2_ := Aside0.mk (hbox); have n3_ := Aside0.mk ((by rw [hg]; exact (below_size (by repeat (first | (with_reducible first | exact HB.out | apply below_alloc | apply pw_below_drewN | apply below_drew1) | exact HB.out))) : w.heap.size ≤ gb381)); have n4_ := Aside0.mk ((by rw [hg]; exact (below_size (by repeat (first | (with_reducible first | exact HB.out | apply below_alloc | apply pw_below_drewN | apply below_drew1) | exact HB.out))) : w.heap.size ≤ gb381)); clear HO_3; clear HB; have HO_3 := n0_; have HB := n1_; have BK381 := n2_; have GW381 := n3_; have GE381 := n4_; clear n0_ n1_ n2_ n3_ n4_; clear hb hbox hg; have hcz9_0 : w8.cell? ⟨gb381, 0, none⟩ = some (.int .i64 0) := (blk_cell BK381.out 0).trans rfl; have hcz9_1 : w8.cell? ⟨gb381, 1, none⟩ = some (.int .i64 0) := (blk_cell BK381.out 1).trans rfl; have hcz9_2 : w8.cell? ⟨gb381, 2, none⟩ = some (.int .u8 0) := (blk_cell BK381.out 2).trans rfl; have hcz9_3 : w8.cell? ⟨gb381, 3, none⟩ = some (.int .u8 0) := (blk_cell BK381.out 3).trans rfl; have hcz9_4 : w8.cell? ⟨gb381, 4, none⟩ = some (.int .u8 0) := (blk_cell BK381.out 4).trans rfl; have hcz9_5 : w8.cell? ⟨gb381, 5, none⟩ = some (.int .u8 0) := (blk_cell BK381.out 5).trans rfl; have hcz9_6 : w8.cell? ⟨gb381, 6, none⟩ = some (.int .u8 0) := (blk_cell BK381.out 6).trans rfl; have hfz9_0 := blk_frozen BK381.out 0; have hfz9_1 := blk_frozen BK381.out 1; have hfz9_2 := blk_frozen BK381.out 2; have hfz9_3 := blk_frozen BK381.out 3; have hfz9_4 := blk_frozen BK381.out 4; have hfz9_5 := blk_frozen BK381.out 5; have hfz9_6 := blk_frozen BK381.out 6) | ((with_reducible refine gate_builtin (b := .append) (xs := #[.tmp 26, .tmp 28]) rfl ?_); at_builtin; refine Kd.R_append k31 (w0 := w) w.heap.size rfl (.tmp 26) (.tmp 28) 40 31 (.agg #[(.int .i64 0), (.int .i64 0), (.int .u8 0), (.int .u8 0), (.int .u8 0), (.int .u8 0), (.int .u8 0)]) 24 rfl Tryd.underlying40 info31 rfl (by decide) (by omega) u3 x3_1 (⟨t374, t375, t376, (⟨t377, t378, t379, t380⟩ : S22)⟩ : S31) [.int .i64 t374, .int .i64 t375, .int .u8 t376, .int .u8 t377, .int .u8 t378, .int .u8 t379, .int .u8 t380] (fun k_ => k_ ≠ gb381) (fun _ => False) rfl (by first | (go_simp; done) | (go_simp; rfl)) ?aP (fun _ hk => hk.elim) ?aF ?aO ?aB ?aS ?aL ?_; (case aP => exact k31_mkM _ _ _ (⟨t374, t375, t376, (⟨t377, t378, t379, t380⟩ : S22)⟩ : S31)); (case aB => exact (by repeat (first | (with_reducible first | exact HB.out | apply below_alloc | apply pw_below_drewN | apply below_drew1 | refine below_set ?_ GE381.out) | exact HB.out))); (case aF => exact (fun k_ hk => Kd.freshB (g := gb381) (o := .cells #[.int .i64 t374, .int .i64 t375, .int .u8 t376, .int .u8 t377, .int .u8 t378, .int .u8 t379, .int .u8 t380] 31 (0, 0)) (by (with_reducible repeat (first | refine blk_drewN ?_ _ | refine blk_drew ?_ | refine blk_alloc ?_ _)); refine blk_put (cs := #[.int .i64 t374, .int .i64 t375, .int .u8 t376, .int .u8 t377, .int .u8 t378, .int .u8 t379, .int .u8 0]) ?_ 6 _ rfl; (with_reducible repeat (first | refine blk_drewN ?_ _ | refine blk_drew ?_ | refine blk_alloc ?_ _)); refine blk_put (cs := #[.int .i64 t374, .int .i64 t375, .int .u8 t376, .int .u8 t377, .int .u8 t378, .int .u8 0, .int .u8 0]) ?_ 5 _ rfl; (with_reducible repeat (first | refine blk_drewN ?_ _ | refine blk_drew ?_ | refine blk_alloc ?_ _)); refine blk_put (cs := #[.int .i64 t374, .int .i64 t375, .int .u8 t376, .int .u8 t377, .int .u8 0, .int .u8 0, .int .u8 0]) ?_ 4 _ rfl; (with_reducible repeat (first | refine blk_drewN ?_ _ | refine blk_drew ?_ | refine blk_alloc ?_ _)); refine blk_put (cs := #[.int .i64 t374, .int .i64 t375, .int .u8 t376, .int .u8 0, .int .u8 0, .int .u8 0, .int .u8 0]) ?_ 3 _ rfl; (with_reducible repeat (first | refine blk_drewN ?_ _ | refine blk_drew ?_ | refine blk_alloc ?_ _)); refine blk_put (cs := #[.int .i64 t374, .int .i64 t375, .int .u8 0, .int .u8 0, .int .u8 0, .int .u8 0, .int .u8 0]) ?_ 2 _ rfl; (with_reducible repeat (first | refine blk_drewN ?_ _ | refine blk_drew ?_ | refine blk_alloc ?_ _)); refine blk_put (cs := #[.int .i64 t374, .int .i64 0, .int .u8 0, .int .u8 0, .int .u8 0, .int .u8 0, .int .u8 0]) ?_ 1 _ rfl; (with_reducible repeat (first | refine blk_drewN ?_ _ | refine blk_drew ?_ | refine blk_alloc ?_ _)); refine blk_put (cs := #[.int .i64 0, .int .i64 0, .int .u8 0, .int .u8 0, .int .u8 0, .int .u8 0, .int .u8 0]) ?_ 0 _ rfl; (with_reducible repeat (first | refine blk_drewN ?_ _ | refine blk_drew ?_ | refine blk_alloc ?_ _)); exact BK381.out) k_ hk)); (case aO => exact (by (with_reducible repeat (first | apply Kd.R_alloc | apply Kd.R_drewN | apply Kd.R_drew)); exact Kd.R_mono (Kd.R_far (p := ⟨gb381, 6, none⟩) (Kd.R_far (p := ⟨gb381, 5, none⟩) (Kd.R_far (p := ⟨gb381, 4, none⟩) (Kd.R_far (p := ⟨gb381, 3, none⟩) (Kd.R_far (p := ⟨gb381, 2, none⟩) (Kd.R_far (p := ⟨gb381, 1, none⟩) (Kd.R_far (p := ⟨gb381, 0, none⟩) (Kd.R_mono HO_3.out (fun k_ hk => (⟨hk, hk.2⟩ : _ ∧ k_ ≠ gb381))) (fun _ hk => hk.2) (.int .i64 t374)) (fun _ hk => hk.2) (.int .i64 t375)) (fun _ hk => hk.2) (.int .u8 t376)) (fun _ hk => hk.2) (.int .u8 t377)) (fun _ hk => hk.2) (.int .u8 t378)) (fun _ hk => hk.2) (.int .u8 t379)) (fun _ hk => hk.2) (.int .u8 t380)) (fun _ hk => hk.1.2))); (case aS => exact (below_size (by repeat (first | (with_reducible first | exact HB.out | apply below_alloc | apply pw_below_drewN | apply below_drew1 | refine below_set ?_ GE381.out) | exact HB.out)))); (case aL => have := LMc6.out; omega); intro v383 w10 ho hb hg hat; rw [← Ny382.out] at ho; have n0_ := Aside0.mk (blk_grown (g := gb381) (o := .cells #[.int .i64 t374, .int .i64 t375, .int .u8 t376, .int .u8 t377, .int .u8 t378, .int .u8 t379, .int .u8 t380] 31 (0, 0)) (by (with_reducible repeat (first | refine blk_drewN ?_ _ | refine blk_drew ?_ | refine blk_alloc ?_ _)); refine blk_put (cs := #[.int .i64 t374, .int .i64 t375, .int .u8 t376, .int .u8 t377, .int .u8 t378, .int .u8 t379, .int .u8 0]) ?_ 6 _ rfl; (with_reducible repeat (first | refine blk_drewN ?_ _ | refine blk_drew ?_ | refine blk_alloc ?_ _)); refine blk_put (cs := #[.int .i64 t374, .int .i64 t375, .int .u8 t376, .int .u8 t377, .int .u8 t378, .int .u8 0, .int .u8 0]) ?_ 5 _ rfl; (with_reducible repeat (first | refine blk_drewN ?_ _ | refine blk_drew ?_ | refine blk_alloc ?_ _)); refine blk_put (cs := #[.int .i64 t374, .int .i64 t375, .int .u8 t376, .int .u8 t377, .int .u8 0, .int .u8 0, .int .u8 0]) ?_ 4 _ rfl; (with_reducible repeat (first | refine blk_drewN ?_ _ | refine blk_drew ?_ | refine blk_alloc ?_ _)); refine blk_put (cs := #[.int .i64 t374, .int .i64 t375, .int .u8 t376, .int .u8 0, .int .u8 0, .int .u8 0, .int .u8 0]) ?_ 3 _ rfl; (with_reducible repeat (first | refine blk_drewN ?_ _ | refine blk_drew ?_ | refine blk_alloc ?_ _)); refine blk_put (cs := #[.int .i64 t374, .int .i64 t375, .int .u8 0, .int .u8 0, .int .u8 0, .int .u8 0, .int .u8 0]) ?_ 2 _ rfl; (with_reducible repeat (first | refine blk_drewN ?_ _ | refine blk_drew ?_ | refine blk_alloc ?_ _)); refine blk_put (cs := #[.int .i64 t374, .int .i64 0, .int .u8 0, .int .u8 0, .int .u8 0, .int .u8 0, .int .u8 0]) ?_ 1 _ rfl; (with_reducible repeat (first | refine blk_drewN ?_ _ | refine blk_drew ?_ | refine blk_alloc ?_ _)); refine blk_put (cs := #[.int .i64 0, .int .i64 0, .int .u8 0, .int .u8 0, .int .u8 0, .int .u8 0, .int .u8 0]) ?_ 0 _ rfl; (with_reducible repeat (first | refine blk_drewN ?_ _ | refine blk_drew ?_ | refine blk_alloc ?_ _)); exact BK381.out) hg (Kd.R_away HO_3.out (fun _ hk => hk.2))); have n1_ := Aside0.mk (hb); have n2_ := Aside0.mk (ho); clear BK381; clear HB; clear HO_3; have BK381 := n0_; have HB := n1_; have HO384 := n2_; clear n0_ n1_ n2_; clear ho hb hg hat; have hcz11_0 : w10.cell? ⟨gb381, 0, none⟩ = some (.int .i64 t374) := (blk_cell BK381.out 0).trans rfl; have hcz11_1 : w10.cell? ⟨gb381, 1, none⟩ = some (.int .i64 t375) := (blk_cell BK381.out 1).trans rfl; have hcz11_2 : w10.cell? ⟨gb381, 2, none⟩ = some (.int .u8 t376) := (blk_cell BK381.out 2).trans rfl; have hcz11_3 : w10.cell? ⟨gb381, 3, none⟩ = some (.int .u8 t377) := (blk_cell BK381.out 3).trans rfl; have hcz11_4 : w10.cell? ⟨gb381, 4, none⟩ = some (.int .u8 t378) := (blk_cell BK381.out 4).trans rfl; have hcz11_5 : w10.cell? ⟨gb381, 5, none⟩ = some (.int .u8 t379) := (blk_cell BK381.out 5).trans rfl; have hcz11_6 : w10.cell? ⟨gb381, 6, none⟩ = some (.int .u8 t380) := (blk_cell BK381.out 6).trans rfl; have hfz11_0 := blk_frozen BK381.out 0; have hfz11_1 := blk_frozen BK381.out 1; have hfz11_2 := blk_frozen BK381.out 2; have hfz11_3 := blk_frozen BK381.out 3; have hfz11_4 := blk_frozen BK381.out 4; have hfz11_5 := blk_frozen BK381.out 5; have hfz11_6 := blk_frozen BK381.out 6))
              go_roundg k1
              case measure => have := HK1.out; omega
              case rel => exact ⟨(y382), (t375), (wrap64 (x5_1 + 1)), (by first | rfl | (simp; done) | (simp [*]; done)), (by first | rfl | (simp; done) | (simp [*]; done)), H', ⟨by have := HK1.out; omega⟩, ⟨by (with_reducible repeat (first | apply Kd.R_alloc | apply Kd.R_drewN | apply Kd.R_drew)); exact Kd.R_mono HO384.out (fun _ hk => trivial)⟩, ⟨by repeat (first | (with_reducible first | exact HB.out | apply below_alloc | apply pw_below_drewN | apply below_drew1 | refine below_set ?_ GE381.out) | exact HB.out)⟩⟩
            · rw [if_neg c6] at H
              exact absurd H (by simp)
          · rw [if_neg c4] at H
            exact absurd H (by simp)
        · rw [if_neg c3] at H
          have c3b0 : decide (x5_1 < (l0.length : Int)) = false := decide_eq_false c3
          clear c3
          replace H := Option.bind_eq_some_iff.mp H
          obtain ⟨⟨t385, t386, t387, t388, t389, t390, t391⟩, A120, H⟩ := H
          replace H : (if x3_1.length < 5864062014805 then (shuttleref07_Path.l0 k1 l0 (x3_1 ++ [(⟨t385, t386, t387, (⟨t388, t389, t390, t391⟩ : S22)⟩ : S31)]) t386 (wrap64 (x5_1 + 1))) else (none)) = some r := H
          have A12 := Aside0.mk A120
          clear A120
          by_cases c13 : x3_1.length < 5864062014805
          · rw [if_pos c13] at H
            have LMc13 := Aside0.mk c13
            clear c13
            obtain ⟨y393, hy393⟩ : ∃ y_ : List (S31), y_ = (x3_1 ++ [(⟨t385, t386, t387, (⟨t388, t389, t390, t391⟩ : S22)⟩ : S31)]) := ⟨_, rfl⟩
            replace H : (shuttleref07_Path.l0 k1 l0 y393 t386 (wrap64 (x5_1 + 1))) = some r := by first | (rw [hy393]; with_reducible exact H) | (have H2_ := (Option.bind_some _ _).symm.trans H; rw [hy393]; with_reducible exact H2_) | (have H2_ := (Option.bind_some _ _).symm.trans H; with_reducible exact H2_) | with_reducible exact H | (rw [hy393]; exact H) | exact H
            have Ny393 := Aside0.mk hy393
            clear hy393
            have H' := Aside0.mk H
            clear H
            go_wp2_with (first | ((with_reducible refine gate_callee (f := 13) rfl ?_); refine goesL_ (some 25) rfl rfl Tryd.func13 (by kernel_rfl) rfl #[.int .i64 x4_1, .int .u8 0] rfl (by (try simp only [List.map_toArray, List.map_cons, List.map_nil]); first | done | rfl | (simp only [List.length_drop, List.length_take]; rfl)) ?_; (with_reducible refine (shuttleref07_Step.calls k1 x4_1 0 t385 t386 t387 t388 t389 t390 t391 _ A12.out).mono ?_); rintro e w14 ⟨rfl, hb⟩; refine ⟨_, rfl, ?_⟩; have n0_ := Aside0.mk (Kd.R_below (by (with_reducible repeat (first | apply Kd.R_alloc | apply Kd.R_drewN | apply Kd.R_drew)); exact HO_3.out) hb); have n1_ := Aside0.mk (below_step (by repeat (first | (with_reducible first | exact HB.out | apply below_alloc | apply pw_below_drewN | apply below_drew1) | exact HB.out)) hb); clear HO_3; clear HB; have HO_3 := n0_; have HB := n1_; clear n0_ n1_; (try clear hb); (try clear hb2); (try clear hk); (try clear hi)) | ((with_reducible refine gate_dst (N := 7) rfl ?_); refine box_event ?hg (N := 7) ?hd (cs := #[.int .i64 0, .int .i64 0, .int .u8 0, .int .u8 0, .int .u8 0, .int .u8 0, .int .u8 0]) (t := 31) ?hr ?_; (case hd => rfl); (case hg => rfl); (case hr => first | (go_simp; done) | (go_simp; rfl)); intro gb392 hg w15 hbox hb; have n0_ := Aside0.mk (Kd.R_below (Kd.R_elderB (by (with_reducible repeat (first | apply Kd.R_alloc | apply Kd.R_drewN | apply Kd.R_drew)); exact HO_3.out) gb392 (Nat.le_of_eq hg.symm)) hb); have n1_ := Aside0.mk (below_step (by repeat (first | (with_reducible first | exact HB.out | apply below_alloc | apply pw_below_drewN | apply below_drew1) | exact HB.out)) hb); have n2_ := Aside0.mk (hbox); have n3_ := Aside0.mk ((by rw [hg]; exact (below_size (by repeat (first | (with_reducible first | exact HB.out | apply below_alloc | apply pw_below_drewN | apply below_drew1) | exact HB.out))) : w.heap.size ≤ gb392)); have n4_ := Aside0.mk ((by rw [hg]; exact (below_size (by repeat (first | (with_reducible first | exact HB.out | apply below_alloc | apply pw_below_drewN | apply below_drew1) | exact HB.out))) : w.heap.size ≤ gb392)); clear HO_3; clear HB; have HO_3 := n0_; have HB := n1_; have BK392 := n2_; have GW392 := n3_; have GE392 := n4_; clear n0_ n1_ n2_ n3_ n4_; clear hb hbox hg; have hcz16_0 : w15.cell? ⟨gb392, 0, none⟩ = some (.int .i64 0) := (blk_cell BK392.out 0).trans rfl; have hcz16_1 : w15.cell? ⟨gb392, 1, none⟩ = some (.int .i64 0) := (blk_cell BK392.out 1).trans rfl; have hcz16_2 : w15.cell? ⟨gb392, 2, none⟩ = some (.int .u8 0) := (blk_cell BK392.out 2).trans rfl; have hcz16_3 : w15.cell? ⟨gb392, 3, none⟩ = some (.int .u8 0) := (blk_cell BK392.out 3).trans rfl; have hcz16_4 : w15.cell? ⟨gb392, 4, none⟩ = some (.int .u8 0) := (blk_cell BK392.out 4).trans rfl; have hcz16_5 : w15.cell? ⟨gb392, 5, none⟩ = some (.int .u8 0) := (blk_cell BK392.out 5).trans rfl; have hcz16_6 : w15.cell? ⟨gb392, 6, none⟩ = some (.int .u8 0) := (blk_cell BK392.out 6).trans rfl; have hfz16_0 := blk_frozen BK392.out 0; have hfz16_1 := blk_frozen BK392.out 1; have hfz16_2 := blk_frozen BK392.out 2; have hfz16_3 := blk_frozen BK392.out 3; have hfz16_4 := blk_frozen BK392.out 4; have hfz16_5 := blk_frozen BK392.out 5; have hfz16_6 := blk_frozen BK392.out 6) | ((with_reducible refine gate_builtin (b := .append) (xs := #[.tmp 26, .tmp 28]) rfl ?_); at_builtin; refine Kd.R_append k31 (w0 := w) w.heap.size rfl (.tmp 26) (.tmp 28) 40 31 (.agg #[(.int .i64 0), (.int .i64 0), (.int .u8 0), (.int .u8 0), (.int .u8 0), (.int .u8 0), (.int .u8 0)]) 24 rfl Tryd.underlying40 info31 rfl (by decide) (by omega) u3 x3_1 (⟨t385, t386, t387, (⟨t388, t389, t390, t391⟩ : S22)⟩ : S31) [.int .i64 t385, .int .i64 t386, .int .u8 t387, .int .u8 t388, .int .u8 t389, .int .u8 t390, .int .u8 t391] (fun k_ => k_ ≠ gb392) (fun _ => False) rfl (by first | (go_simp; done) | (go_simp; rfl)) ?aP (fun _ hk => hk.elim) ?aF ?aO ?aB ?aS ?aL ?_; (case aP => exact k31_mkM _ _ _ (⟨t385, t386, t387, (⟨t388, t389, t390, t391⟩ : S22)⟩ : S31)); (case aB => exact (by repeat (first | (with_reducible first | exact HB.out | apply below_alloc | apply pw_below_drewN | apply below_drew1 | refine below_set ?_ GE392.out) | exact HB.out))); (case aF => exact (fun k_ hk => Kd.freshB (g := gb392) (o := .cells #[.int .i64 t385, .int .i64 t386, .int .u8 t387, .int .u8 t388, .int .u8 t389, .int .u8 t390, .int .u8 t391] 31 (0, 0)) (by (with_reducible repeat (first | refine blk_drewN ?_ _ | refine blk_drew ?_ | refine blk_alloc ?_ _)); refine blk_put (cs := #[.int .i64 t385, .int .i64 t386, .int .u8 t387, .int .u8 t388, .int .u8 t389, .int .u8 t390, .int .u8 0]) ?_ 6 _ rfl; (with_reducible repeat (first | refine blk_drewN ?_ _ | refine blk_drew ?_ | refine blk_alloc ?_ _)); refine blk_put (cs := #[.int .i64 t385, .int .i64 t386, .int .u8 t387, .int .u8 t388, .int .u8 t389, .int .u8 0, .int .u8 0]) ?_ 5 _ rfl; (with_reducible repeat (first | refine blk_drewN ?_ _ | refine blk_drew ?_ | refine blk_alloc ?_ _)); refine blk_put (cs := #[.int .i64 t385, .int .i64 t386, .int .u8 t387, .int .u8 t388, .int .u8 0, .int .u8 0, .int .u8 0]) ?_ 4 _ rfl; (with_reducible repeat (first | refine blk_drewN ?_ _ | refine blk_drew ?_ | refine blk_alloc ?_ _)); refine blk_put (cs := #[.int .i64 t385, .int .i64 t386, .int .u8 t387, .int .u8 0, .int .u8 0, .int .u8 0, .int .u8 0]) ?_ 3 _ rfl; (with_reducible repeat (first | refine blk_drewN ?_ _ | refine blk_drew ?_ | refine blk_alloc ?_ _)); refine blk_put (cs := #[.int .i64 t385, .int .i64 t386, .int .u8 0, .int .u8 0, .int .u8 0, .int .u8 0, .int .u8 0]) ?_ 2 _ rfl; (with_reducible repeat (first | refine blk_drewN ?_ _ | refine blk_drew ?_ | refine blk_alloc ?_ _)); refine blk_put (cs := #[.int .i64 t385, .int .i64 0, .int .u8 0, .int .u8 0, .int .u8 0, .int .u8 0, .int .u8 0]) ?_ 1 _ rfl; (with_reducible repeat (first | refine blk_drewN ?_ _ | refine blk_drew ?_ | refine blk_alloc ?_ _)); refine blk_put (cs := #[.int .i64 0, .int .i64 0, .int .u8 0, .int .u8 0, .int .u8 0, .int .u8 0, .int .u8 0]) ?_ 0 _ rfl; (with_reducible repeat (first | refine blk_drewN ?_ _ | refine blk_drew ?_ | refine blk_alloc ?_ _)); exact BK392.out) k_ hk)); (case aO => exact (by (with_reducible repeat (first | apply Kd.R_alloc | apply Kd.R_drewN | apply Kd.R_drew)); exact Kd.R_mono (Kd.R_far (p := ⟨gb392, 6, none⟩) (Kd.R_far (p := ⟨gb392, 5, none⟩) (Kd.R_far (p := ⟨gb392, 4, none⟩) (Kd.R_far (p := ⟨gb392, 3, none⟩) (Kd.R_far (p := ⟨gb392, 2, none⟩) (Kd.R_far (p := ⟨gb392, 1, none⟩) (Kd.R_far (p := ⟨gb392, 0, none⟩) (Kd.R_mono HO_3.out (fun k_ hk => (⟨hk, hk.2⟩ : _ ∧ k_ ≠ gb392))) (fun _ hk => hk.2) (.int .i64 t385)) (fun _ hk => hk.2) (.int .i64 t386)) (fun _ hk => hk.2) (.int .u8 t387)) (fun _ hk => hk.2) (.int .u8 t388)) (fun _ hk => hk.2) (.int .u8 t389)) (fun _ hk => hk.2) (.int .u8 t390)) (fun _ hk => hk.2) (.int .u8 t391)) (fun _ hk => hk.1.2))); (case aS => exact (below_size (by repeat (first | (with_reducible first | exact HB.out | apply below_alloc | apply pw_below_drewN | apply below_drew1 | refine below_set ?_ GE392.out) | exact HB.out)))); (case aL => have := LMc13.out; omega); intro v394 w17 ho hb hg hat; rw [← Ny393.out] at ho; have n0_ := Aside0.mk (blk_grown (g := gb392) (o := .cells #[.int .i64 t385, .int .i64 t386, .int .u8 t387, .int .u8 t388, .int .u8 t389, .int .u8 t390, .int .u8 t391] 31 (0, 0)) (by (with_reducible repeat (first | refine blk_drewN ?_ _ | refine blk_drew ?_ | refine blk_alloc ?_ _)); refine blk_put (cs := #[.int .i64 t385, .int .i64 t386, .int .u8 t387, .int .u8 t388, .int .u8 t389, .int .u8 t390, .int .u8 0]) ?_ 6 _ rfl; (with_reducible repeat (first | refine blk_drewN ?_ _ | refine blk_drew ?_ | refine blk_alloc ?_ _)); refine blk_put (cs := #[.int .i64 t385, .int .i64 t386, .int .u8 t387, .int .u8 t388, .int .u8 t389, .int .u8 0, .int .u8 0]) ?_ 5 _ rfl; (with_reducible repeat (first | refine blk_drewN ?_ _ | refine blk_drew ?_ | refine blk_alloc ?_ _)); refine blk_put (cs := #[.int .i64 t385, .int .i64 t386, .int .u8 t387, .int .u8 t388, .int .u8 0, .int .u8 0, .int .u8 0]) ?_ 4 _ rfl; (with_reducible repeat (first | refine blk_drewN ?_ _ | refine blk_drew ?_ | refine blk_alloc ?_ _)); refine blk_put (cs := #[.int .i64 t385, .int .i64 t386, .int .u8 t387, .int .u8 0, .int .u8 0, .int .u8 0, .int .u8 0]) ?_ 3 _ rfl; (with_reducible repeat (first | refine blk_drewN ?_ _ | refine blk_drew ?_ | refine blk_alloc ?_ _)); refine blk_put (cs := #[.int .i64 t385, .int .i64 t386, .int .u8 0, .int .u8 0, .int .u8 0, .int .u8 0, .int .u8 0]) ?_ 2 _ rfl; (with_reducible repeat (first | refine blk_drewN ?_ _ | refine blk_drew ?_ | refine blk_alloc ?_ _)); refine blk_put (cs := #[.int .i64 t385, .int .i64 0, .int .u8 0, .int .u8 0, .int .u8 0, .int .u8 0, .int .u8 0]) ?_ 1 _ rfl; (with_reducible repeat (first | refine blk_drewN ?_ _ | refine blk_drew ?_ | refine blk_alloc ?_ _)); refine blk_put (cs := #[.int .i64 0, .int .i64 0, .int .u8 0, .int .u8 0, .int .u8 0, .int .u8 0, .int .u8 0]) ?_ 0 _ rfl; (with_reducible repeat (first | refine blk_drewN ?_ _ | refine blk_drew ?_ | refine blk_alloc ?_ _)); exact BK392.out) hg (Kd.R_away HO_3.out (fun _ hk => hk.2))); have n1_ := Aside0.mk (hb); have n2_ := Aside0.mk (ho); clear BK392; clear HB; clear HO_3; have BK392 := n0_; have HB := n1_; have HO395 := n2_; clear n0_ n1_ n2_; clear ho hb hg hat; have hcz18_0 : w17.cell? ⟨gb392, 0, none⟩ = some (.int .i64 t385) := (blk_cell BK392.out 0).trans rfl; have hcz18_1 : w17.cell? ⟨gb392, 1, none⟩ = some (.int .i64 t386) := (blk_cell BK392.out 1).trans rfl; have hcz18_2 : w17.cell? ⟨gb392, 2, none⟩ = some (.int .u8 t387) := (blk_cell BK392.out 2).trans rfl; have hcz18_3 : w17.cell? ⟨gb392, 3, none⟩ = some (.int .u8 t388) := (blk_cell BK392.out 3).trans rfl; have hcz18_4 : w17.cell? ⟨gb392, 4, none⟩ = some (.int .u8 t389) := (blk_cell BK392.out 4).trans rfl; have hcz18_5 : w17.cell? ⟨gb392, 5, none⟩ = some (.int .u8 t390) := (blk_cell BK392.out 5).trans rfl; have hcz18_6 : w17.cell? ⟨gb392, 6, none⟩ = some (.int .u8 t391) := (blk_cell BK392.out 6).trans rfl; have hfz18_0 := blk_frozen BK392.out 0; have hfz18_1 := blk_frozen BK392.out 1; have hfz18_2 := blk_frozen BK392.out 2; have hfz18_3 := blk_frozen BK392.out 3; have hfz18_4 := blk_frozen BK392.out 4; have hfz18_5 := blk_frozen BK392.out 5; have hfz18_6 := blk_frozen BK392.out 6))
            go_roundg k1
            case measure => have := HK1.out; omega
            case rel => exact ⟨(y393), (t386), (wrap64 (x5_1 + 1)), (by first | rfl | (simp; done) | (simp [*]; done)), (by first | rfl | (simp; done) | (simp [*]; done)), H', ⟨by have := HK1.out; omega⟩, ⟨by (with_reducible repeat (first | apply Kd.R_alloc | apply Kd.R_drewN | apply Kd.R_drew)); exact Kd.R_mono HO395.out (fun _ hk => trivial)⟩, ⟨by repeat (first | (with_reducible first | exact HB.out | apply below_alloc | apply pw_below_drewN | apply below_drew1 | refine below_set ?_ GE392.out) | exact HB.out)⟩⟩
          · rw [if_neg c13] at H
            exact absurd H (by simp)
      · rw [if_neg c2] at H
        have c2b0 : decide (x5_1 < (wrap64 ((l0.length : Int) + 6))) = false := decide_eq_false c2
        clear c2
        obtain rfl := Option.some.inj H
        go_wp2
        go_ret
        exact ⟨_, by first | rfl | (simp [errW_none, errW_some] <;> rfl) | (simp [*, errW_none, errW_some] <;> rfl), by (with_reducible repeat (first | apply Kd.R_alloc | apply Kd.R_drewN | apply Kd.R_drew)); exact HO_3.out, by repeat (first | (with_reducible first | exact HB.out | apply below_alloc | apply pw_below_drewN | apply below_drew1) | exact HB.out)⟩

end Go.Proofs.YtmajbcglpcagoaaDoor.X
