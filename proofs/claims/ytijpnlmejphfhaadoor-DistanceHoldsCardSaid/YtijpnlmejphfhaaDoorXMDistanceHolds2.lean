/- Texts of this seat, one behind the other (merge.py): the walks of the functions that the law DistanceHolds uses, and plain words on what they come to. No condition. -/
import Derived.Test.YtijpnlmejphfhaaDoorWTab
import Derived.Test.YtijpnlmejphfhaaDoorWKept
import Derived.Test.YtijpnlmejphfhaaDoorWAt
import Derived.RangeFuncBox
import Derived.Deep.DrawnRows
import Derived.Test.YtijpnlmejphfhaaDoorXMDistanceHolds1
-- YtijpnlmejphfhaaDoorP38
namespace Go.Proofs.YtijpnlmejphfhaaDoor.P
open Go.RowKit Go.Proofs.YtijpnlmejphfhaaDoorW.PrintWords Go.Proofs.YtijpnlmejphfhaaDoorW.PrintLast Go.Proofs.YtijpnlmejphfhaaDoorW.PrintMore
attribute [local go_sem] max2_int min2_int max_two min_two max_three min_three max_four min_four   -- for this text's walks alone
set_option linter.unusedVariables false
set_option linter.unusedSimpArgs false

/-! ### shuttleref12_weigh: function 32 -/
def shuttleref12_weigh.l0 : Nat → Int → Int → Int → Int → Int → Int → Int → Int → Int → Int → Int → Int → Int → Int → Option (Int)
  | 0, _, _, _, _, _, _, _, _, _, _, _, _, _, _ => none
  | k + 1, x1, x7, x8, x200000, x200001, x200002, x200003, x200004, x200005, x200006, x201000, x201001, x201002, x201003 => if x8 < 4 then (if x8 = 0 then ((shuttleref10_Version.f k 0 x1).bind fun t204 => (if t204 = 0 then (shuttleref12_weigh.l0 k x1 (wrap64 (x7 + (wrap64 ((wrap64 (x200003)) * x201000)))) (0 + 1) x200000 x200001 x200002 x200003 x200004 x200005 x200006 x201000 x201001 x201002 x201003) else (if t204 = 1 then (shuttleref12_weigh.l0 k x1 (wrap64 (x7 + (wrap64 ((wrap64 (x200003)) * x201001)))) (0 + 1) x200000 x200001 x200002 x200003 x200004 x200005 x200006 x201000 x201001 x201002 x201003) else (if t204 = 2 then (shuttleref12_weigh.l0 k x1 (wrap64 (x7 + (wrap64 ((wrap64 (x200003)) * x201002)))) (0 + 1) x200000 x200001 x200002 x200003 x200004 x200005 x200006 x201000 x201001 x201002 x201003) else (if t204 = 3 then (shuttleref12_weigh.l0 k x1 (wrap64 (x7 + (wrap64 ((wrap64 (x200003)) * x201003)))) (0 + 1) x200000 x200001 x200002 x200003 x200004 x200005 x200006 x201000 x201001 x201002 x201003) else (none)))))) else (if x8 = 1 then ((shuttleref10_Version.f k 1 x1).bind fun t203 => (if t203 = 0 then (shuttleref12_weigh.l0 k x1 (wrap64 (x7 + (wrap64 ((wrap64 (x200004)) * x201000)))) (1 + 1) x200000 x200001 x200002 x200003 x200004 x200005 x200006 x201000 x201001 x201002 x201003) else (if t203 = 1 then (shuttleref12_weigh.l0 k x1 (wrap64 (x7 + (wrap64 ((wrap64 (x200004)) * x201001)))) (1 + 1) x200000 x200001 x200002 x200003 x200004 x200005 x200006 x201000 x201001 x201002 x201003) else (if t203 = 2 then (shuttleref12_weigh.l0 k x1 (wrap64 (x7 + (wrap64 ((wrap64 (x200004)) * x201002)))) (1 + 1) x200000 x200001 x200002 x200003 x200004 x200005 x200006 x201000 x201001 x201002 x201003) else (if t203 = 3 then (shuttleref12_weigh.l0 k x1 (wrap64 (x7 + (wrap64 ((wrap64 (x200004)) * x201003)))) (1 + 1) x200000 x200001 x200002 x200003 x200004 x200005 x200006 x201000 x201001 x201002 x201003) else (none)))))) else (if x8 = 2 then ((shuttleref10_Version.f k 2 x1).bind fun t202 => (if t202 = 0 then (shuttleref12_weigh.l0 k x1 (wrap64 (x7 + (wrap64 ((wrap64 (x200005)) * x201000)))) (2 + 1) x200000 x200001 x200002 x200003 x200004 x200005 x200006 x201000 x201001 x201002 x201003) else (if t202 = 1 then (shuttleref12_weigh.l0 k x1 (wrap64 (x7 + (wrap64 ((wrap64 (x200005)) * x201001)))) (2 + 1) x200000 x200001 x200002 x200003 x200004 x200005 x200006 x201000 x201001 x201002 x201003) else (if t202 = 2 then (shuttleref12_weigh.l0 k x1 (wrap64 (x7 + (wrap64 ((wrap64 (x200005)) * x201002)))) (2 + 1) x200000 x200001 x200002 x200003 x200004 x200005 x200006 x201000 x201001 x201002 x201003) else (if t202 = 3 then (shuttleref12_weigh.l0 k x1 (wrap64 (x7 + (wrap64 ((wrap64 (x200005)) * x201003)))) (2 + 1) x200000 x200001 x200002 x200003 x200004 x200005 x200006 x201000 x201001 x201002 x201003) else (none)))))) else (if x8 = 3 then ((shuttleref10_Version.f k 3 x1).bind fun t201 => (if t201 = 0 then (shuttleref12_weigh.l0 k x1 (wrap64 (x7 + (wrap64 ((wrap64 (x200006)) * x201000)))) (3 + 1) x200000 x200001 x200002 x200003 x200004 x200005 x200006 x201000 x201001 x201002 x201003) else (if t201 = 1 then (shuttleref12_weigh.l0 k x1 (wrap64 (x7 + (wrap64 ((wrap64 (x200006)) * x201001)))) (3 + 1) x200000 x200001 x200002 x200003 x200004 x200005 x200006 x201000 x201001 x201002 x201003) else (if t201 = 2 then (shuttleref12_weigh.l0 k x1 (wrap64 (x7 + (wrap64 ((wrap64 (x200006)) * x201002)))) (3 + 1) x200000 x200001 x200002 x200003 x200004 x200005 x200006 x201000 x201001 x201002 x201003) else (if t201 = 3 then (shuttleref12_weigh.l0 k x1 (wrap64 (x7 + (wrap64 ((wrap64 (x200006)) * x201003)))) (3 + 1) x200000 x200001 x200002 x200003 x200004 x200005 x200006 x201000 x201001 x201002 x201003) else (none)))))) else (none))))) else (some x7)
def shuttleref12_weigh.f (k : Nat) (a0_0 : Int) (a0_1 : Int) (a0_2 : Int) (a0_3 : Int) (a0_4 : Int) (a0_5 : Int) (a0_6 : Int) (a1 : Int) (a2_0 : Int) (a2_1 : Int) (a2_2 : Int) (a2_3 : Int) : Option (Int) := shuttleref12_weigh.l0 k a1 0 0 a0_0 a0_1 a0_2 a0_3 a0_4 a0_5 a0_6 a2_0 a2_1 a2_2 a2_3
theorem shuttleref12_weigh.mono_l : ∀ k, (∀ y0 y1 y2 y3 y4 y5 y6 y7 y8 y9 y10 y11 y12 y13, LeO (shuttleref12_weigh.l0 k y0 y1 y2 y3 y4 y5 y6 y7 y8 y9 y10 y11 y12 y13) (shuttleref12_weigh.l0 (k + 1) y0 y1 y2 y3 y4 y5 y6 y7 y8 y9 y10 y11 y12 y13))
  | 0 => fun _ _ _ _ _ _ _ _ _ _ _ _ _ _ r h => by simp [shuttleref12_weigh.l0] at h
  | k + 1 => by
    have ih0 := shuttleref12_weigh.mono_l k
    · intro y0 y1 y2 y3 y4 y5 y6 y7 y8 y9 y10 y11 y12 y13
      unfold shuttleref12_weigh.l0
      repeat' first
      | (with_reducible exact ih0 _ _ _ _ _ _ _ _ _ _ _ _ _ _)
      | (with_reducible exact shuttleref10_Version.mono _ _ _)
      | (with_reducible exact LeO.refl _)
      | (with_reducible exact LeO.none _)
      | (with_reducible refine LeO.ite ?_ ?_)
      | (with_reducible refine LeO.bind ?_ (fun _ => ?_))
      | exact ih0 _ _ _ _ _ _ _ _ _ _ _ _ _ _
      | exact shuttleref10_Version.mono _ _ _
      | exact LeO.none _
      | refine LeO.ite ?_ ?_
      | refine LeO.bind ?_ (fun _ => ?_)
theorem shuttleref12_weigh.mono : ∀ a0 a1 a2 a3 a4 a5 a6 a7 a8 a9 a10 a11 k, LeO (shuttleref12_weigh.f k a0 a1 a2 a3 a4 a5 a6 a7 a8 a9 a10 a11) (shuttleref12_weigh.f (k + 1) a0 a1 a2 a3 a4 a5 a6 a7 a8 a9 a10 a11) := by
  intro a0 a1 a2 a3 a4 a5 a6 a7 a8 a9 a10 a11 k
  have ih0 := shuttleref12_weigh.mono_l k
  unfold shuttleref12_weigh.f
  repeat' first
      | (with_reducible exact ih0 _ _ _ _ _ _ _ _ _ _ _ _ _ _)
      | (with_reducible exact shuttleref10_Version.mono _ _ _)
      | (with_reducible exact LeO.refl _)
      | (with_reducible exact LeO.none _)
      | (with_reducible refine LeO.ite ?_ ?_)
      | (with_reducible refine LeO.bind ?_ (fun _ => ?_))
      | exact ih0 _ _ _ _ _ _ _ _ _ _ _ _ _ _
      | exact shuttleref10_Version.mono _ _ _
      | exact LeO.none _
      | refine LeO.ite ?_ ?_
      | refine LeO.bind ?_ (fun _ => ?_)
set_option maxHeartbeats 8000000 in
set_option maxRecDepth 100000 in
theorem shuttleref12_weigh.calls (k : Nat) (a0_0 : Int) (a0_1 : Int) (a0_2 : Int) (a0_3 : Int) (a0_4 : Int) (a0_5 : Int) (a0_6 : Int) (a1 : Int) (a2_0 : Int) (a2_1 : Int) (a2_2 : Int) (a2_3 : Int) (r : Int) (w : World) (h : shuttleref12_weigh.f k a0_0 a0_1 a0_2 a0_3 a0_4 a0_5 a0_6 a1 a2_0 a2_1 a2_2 a2_3 = some r) :
    Calls Tryd.prog 32 #[.agg #[.int .i64 a0_0, .int .i64 a0_1, .int .u8 a0_2, .int .u8 a0_3, .int .u8 a0_4, .int .u8 a0_5, .int .u8 a0_6], .int .i64 a1, .agg #[.int .i64 a2_0, .int .i64 a2_1, .int .i64 a2_2, .int .i64 a2_3]] w fun e w' => e = .returned (.int .i64 r) ∧ Below w.heap.size w w' := by
  have hu58 := Tryd.underlying58
  have hu22 := Tryd.underlying22
  have HB := Aside0.mk (Below.refl w.heap.size w)
  have H : (shuttleref12_weigh.l0 k a1 0 0 a0_0 a0_1 a0_2 a0_3 a0_4 a0_5 a0_6 a2_0 a2_1 a2_2 a2_3) = some r := h
  clear h
  have H' := Aside0.mk H
  clear H
  go_enter Tryd.func32, Tryd.ntmps32
  go_wp2_with (first | ((with_reducible refine gate_dst (N := 3) rfl ?_); refine box_event ?hg (N := 3) ?hd (cs := #[.int .i64 a0_0, .int .i64 a0_1, .int .u8 a0_2, .int .u8 a0_3, .int .u8 a0_4, .int .u8 a0_5, .int .u8 a0_6]) (t := 58) ?hr ?_; (case hd => rfl); (case hg => rfl); (case hr => first | (go_simp; done) | (go_simp; rfl)); intro gb199 hg w4 hbox hb; have n0_ := Aside0.mk (below_step (by repeat (first | (with_reducible first | exact HB.out | apply below_alloc | apply pw_below_drewN | apply below_drew1) | exact HB.out)) hb); have n1_ := Aside0.mk (hbox); have n2_ := Aside0.mk ((by rw [hg]; exact (below_size (by repeat (first | (with_reducible first | exact HB.out | apply below_alloc | apply pw_below_drewN | apply below_drew1) | exact HB.out))) : w.heap.size ≤ gb199)); have n3_ := Aside0.mk ((by rw [hg]; exact (below_size (by repeat (first | (with_reducible first | exact HB.out | apply below_alloc | apply pw_below_drewN | apply below_drew1) | exact HB.out))) : w.heap.size ≤ gb199)); clear HB; have HB := n0_; have BK199 := n1_; have GW199 := n2_; have GE199 := n3_; clear n0_ n1_ n2_ n3_; clear hb hbox hg) | ((with_reducible refine gate_dst (N := 5) rfl ?_); refine box_event ?hg (N := 5) ?hd (cs := #[.int .i64 a2_0, .int .i64 a2_1, .int .i64 a2_2, .int .i64 a2_3]) (t := 22) ?hr ?_; (case hd => rfl); (case hg => rfl); (case hr => first | (go_simp; done) | (go_simp; rfl)); intro gb200 hg w5 hbox hb; have n0_ := Aside0.mk (blk_below (g := gb199) (o := .cells #[.int .i64 a0_0, .int .i64 a0_1, .int .u8 a0_2, .int .u8 a0_3, .int .u8 a0_4, .int .u8 a0_5, .int .u8 a0_6] 58 (0, 0)) (by (with_reducible repeat (first | refine blk_drewN ?_ _ | refine blk_drew ?_ | refine blk_alloc ?_ _)); exact BK199.out) hb); have n1_ := Aside0.mk (below_step (by repeat (first | (with_reducible first | exact HB.out | apply below_alloc | apply pw_below_drewN | apply below_drew1 | refine below_set ?_ GE199.out) | exact HB.out)) hb); have n2_ := Aside0.mk (hbox); have n3_ := Aside0.mk ((by rw [hg]; exact (below_size (by repeat (first | (with_reducible first | exact HB.out | apply below_alloc | apply pw_below_drewN | apply below_drew1 | refine below_set ?_ GE199.out) | exact HB.out))) : w.heap.size ≤ gb200)); have n4_ := Aside0.mk ((by rw [hg]; exact (below_size (by repeat (first | (with_reducible first | exact HB.out | apply below_alloc | apply pw_below_drewN | apply below_drew1 | refine below_set ?_ GE199.out) | exact HB.out))) : w.heap.size ≤ gb200)); have n5_ := Aside0.mk ((by rw [hg]; exact Nat.ne_of_lt (blk_lt (g := gb199) (o := .cells #[.int .i64 a0_0, .int .i64 a0_1, .int .u8 a0_2, .int .u8 a0_3, .int .u8 a0_4, .int .u8 a0_5, .int .u8 a0_6] 58 (0, 0)) (by (with_reducible repeat (first | refine blk_drewN ?_ _ | refine blk_drew ?_ | refine blk_alloc ?_ _)); exact BK199.out)) : gb199 ≠ gb200)); have n6_ := Aside0.mk ((by rw [hg]; exact Nat.ne_of_gt (blk_lt (g := gb199) (o := .cells #[.int .i64 a0_0, .int .i64 a0_1, .int .u8 a0_2, .int .u8 a0_3, .int .u8 a0_4, .int .u8 a0_5, .int .u8 a0_6] 58 (0, 0)) (by (with_reducible repeat (first | refine blk_drewN ?_ _ | refine blk_drew ?_ | refine blk_alloc ?_ _)); exact BK199.out)) : gb200 ≠ gb199)); clear BK199; clear HB; have BK199 := n0_; have HB := n1_; have BK200 := n2_; have GW200 := n3_; have GE200 := n4_; have NB199_200 := n5_; have NB200_199 := n6_; clear n0_ n1_ n2_ n3_ n4_ n5_ n6_; clear hb hbox hg))
  repeat ((with_reducible refine gate_quiet ?_); go_quiet (first | ((with_reducible refine gate_dst (N := 3) rfl ?_); refine box_event ?hg (N := 3) ?hd (cs := #[.int .i64 a0_0, .int .i64 a0_1, .int .u8 a0_2, .int .u8 a0_3, .int .u8 a0_4, .int .u8 a0_5, .int .u8 a0_6]) (t := 58) ?hr ?_; (case hd => rfl); (case hg => rfl); (case hr => first | (go_simp; done) | (go_simp; rfl)); intro gb199 hg w4 hbox hb; have n0_ := Aside0.mk (below_step (by repeat (first | (with_reducible first | exact HB.out | apply below_alloc | apply pw_below_drewN | apply below_drew1) | exact HB.out)) hb); have n1_ := Aside0.mk (hbox); have n2_ := Aside0.mk ((by rw [hg]; exact (below_size (by repeat (first | (with_reducible first | exact HB.out | apply below_alloc | apply pw_below_drewN | apply below_drew1) | exact HB.out))) : w.heap.size ≤ gb199)); have n3_ := Aside0.mk ((by rw [hg]; exact (below_size (by repeat (first | (with_reducible first | exact HB.out | apply below_alloc | apply pw_below_drewN | apply below_drew1) | exact HB.out))) : w.heap.size ≤ gb199)); clear HB; have HB := n0_; have BK199 := n1_; have GW199 := n2_; have GE199 := n3_; clear n0_ n1_ n2_ n3_; clear hb hbox hg) | ((with_reducible refine gate_dst (N := 5) rfl ?_); refine box_event ?hg (N := 5) ?hd (cs := #[.int .i64 a2_0, .int .i64 a2_1, .int .i64 a2_2, .int .i64 a2_3]) (t := 22) ?hr ?_; (case hd => rfl); (case hg => rfl); (case hr => first | (go_simp; done) | (go_simp; rfl)); intro gb200 hg w5 hbox hb; have n0_ := Aside0.mk (blk_below (g := gb199) (o := .cells #[.int .i64 a0_0, .int .i64 a0_1, .int .u8 a0_2, .int .u8 a0_3, .int .u8 a0_4, .int .u8 a0_5, .int .u8 a0_6] 58 (0, 0)) (by (with_reducible repeat (first | refine blk_drewN ?_ _ | refine blk_drew ?_ | refine blk_alloc ?_ _)); exact BK199.out) hb); have n1_ := Aside0.mk (below_step (by repeat (first | (with_reducible first | exact HB.out | apply below_alloc | apply pw_below_drewN | apply below_drew1 | refine below_set ?_ GE199.out) | exact HB.out)) hb); have n2_ := Aside0.mk (hbox); have n3_ := Aside0.mk ((by rw [hg]; exact (below_size (by repeat (first | (with_reducible first | exact HB.out | apply below_alloc | apply pw_below_drewN | apply below_drew1 | refine below_set ?_ GE199.out) | exact HB.out))) : w.heap.size ≤ gb200)); have n4_ := Aside0.mk ((by rw [hg]; exact (below_size (by repeat (first | (with_reducible first | exact HB.out | apply below_alloc | apply pw_below_drewN | apply below_drew1 | refine below_set ?_ GE199.out) | exact HB.out))) : w.heap.size ≤ gb200)); have n5_ := Aside0.mk ((by rw [hg]; exact Nat.ne_of_lt (blk_lt (g := gb199) (o := .cells #[.int .i64 a0_0, .int .i64 a0_1, .int .u8 a0_2, .int .u8 a0_3, .int .u8 a0_4, .int .u8 a0_5, .int .u8 a0_6] 58 (0, 0)) (by (with_reducible repeat (first | refine blk_drewN ?_ _ | refine blk_drew ?_ | refine blk_alloc ?_ _)); exact BK199.out)) : gb199 ≠ gb200)); have n6_ := Aside0.mk ((by rw [hg]; exact Nat.ne_of_gt (blk_lt (g := gb199) (o := .cells #[.int .i64 a0_0, .int .i64 a0_1, .int .u8 a0_2, .int .u8 a0_3, .int .u8 a0_4, .int .u8 a0_5, .int .u8 a0_6] 58 (0, 0)) (by (with_reducible repeat (first | refine blk_drewN ?_ _ | refine blk_drew ?_ | refine blk_alloc ?_ _)); exact BK199.out)) : gb200 ≠ gb199)); clear BK199; clear HB; have BK199 := n0_; have HB := n1_; have BK200 := n2_; have GW200 := n3_; have GE200 := n4_; have NB199_200 := n5_; have NB200_199 := n6_; clear n0_ n1_ n2_ n3_ n4_ n5_ n6_; clear hb hbox hg)); try go_wp2_with (first | ((with_reducible refine gate_dst (N := 3) rfl ?_); refine box_event ?hg (N := 3) ?hd (cs := #[.int .i64 a0_0, .int .i64 a0_1, .int .u8 a0_2, .int .u8 a0_3, .int .u8 a0_4, .int .u8 a0_5, .int .u8 a0_6]) (t := 58) ?hr ?_; (case hd => rfl); (case hg => rfl); (case hr => first | (go_simp; done) | (go_simp; rfl)); intro gb199 hg w4 hbox hb; have n0_ := Aside0.mk (below_step (by repeat (first | (with_reducible first | exact HB.out | apply below_alloc | apply pw_below_drewN | apply below_drew1) | exact HB.out)) hb); have n1_ := Aside0.mk (hbox); have n2_ := Aside0.mk ((by rw [hg]; exact (below_size (by repeat (first | (with_reducible first | exact HB.out | apply below_alloc | apply pw_below_drewN | apply below_drew1) | exact HB.out))) : w.heap.size ≤ gb199)); have n3_ := Aside0.mk ((by rw [hg]; exact (below_size (by repeat (first | (with_reducible first | exact HB.out | apply below_alloc | apply pw_below_drewN | apply below_drew1) | exact HB.out))) : w.heap.size ≤ gb199)); clear HB; have HB := n0_; have BK199 := n1_; have GW199 := n2_; have GE199 := n3_; clear n0_ n1_ n2_ n3_; clear hb hbox hg) | ((with_reducible refine gate_dst (N := 5) rfl ?_); refine box_event ?hg (N := 5) ?hd (cs := #[.int .i64 a2_0, .int .i64 a2_1, .int .i64 a2_2, .int .i64 a2_3]) (t := 22) ?hr ?_; (case hd => rfl); (case hg => rfl); (case hr => first | (go_simp; done) | (go_simp; rfl)); intro gb200 hg w5 hbox hb; have n0_ := Aside0.mk (blk_below (g := gb199) (o := .cells #[.int .i64 a0_0, .int .i64 a0_1, .int .u8 a0_2, .int .u8 a0_3, .int .u8 a0_4, .int .u8 a0_5, .int .u8 a0_6] 58 (0, 0)) (by (with_reducible repeat (first | refine blk_drewN ?_ _ | refine blk_drew ?_ | refine blk_alloc ?_ _)); exact BK199.out) hb); have n1_ := Aside0.mk (below_step (by repeat (first | (with_reducible first | exact HB.out | apply below_alloc | apply pw_below_drewN | apply below_drew1 | refine below_set ?_ GE199.out) | exact HB.out)) hb); have n2_ := Aside0.mk (hbox); have n3_ := Aside0.mk ((by rw [hg]; exact (below_size (by repeat (first | (with_reducible first | exact HB.out | apply below_alloc | apply pw_below_drewN | apply below_drew1 | refine below_set ?_ GE199.out) | exact HB.out))) : w.heap.size ≤ gb200)); have n4_ := Aside0.mk ((by rw [hg]; exact (below_size (by repeat (first | (with_reducible first | exact HB.out | apply below_alloc | apply pw_below_drewN | apply below_drew1 | refine below_set ?_ GE199.out) | exact HB.out))) : w.heap.size ≤ gb200)); have n5_ := Aside0.mk ((by rw [hg]; exact Nat.ne_of_lt (blk_lt (g := gb199) (o := .cells #[.int .i64 a0_0, .int .i64 a0_1, .int .u8 a0_2, .int .u8 a0_3, .int .u8 a0_4, .int .u8 a0_5, .int .u8 a0_6] 58 (0, 0)) (by (with_reducible repeat (first | refine blk_drewN ?_ _ | refine blk_drew ?_ | refine blk_alloc ?_ _)); exact BK199.out)) : gb199 ≠ gb200)); have n6_ := Aside0.mk ((by rw [hg]; exact Nat.ne_of_gt (blk_lt (g := gb199) (o := .cells #[.int .i64 a0_0, .int .i64 a0_1, .int .u8 a0_2, .int .u8 a0_3, .int .u8 a0_4, .int .u8 a0_5, .int .u8 a0_6] 58 (0, 0)) (by (with_reducible repeat (first | refine blk_drewN ?_ _ | refine blk_drew ?_ | refine blk_alloc ?_ _)); exact BK199.out)) : gb200 ≠ gb199)); clear BK199; clear HB; have BK199 := n0_; have HB := n1_; have BK200 := n2_; have GW200 := n3_; have GE200 := n4_; have NB199_200 := n5_; have NB200_199 := n6_; clear n0_ n1_ n2_ n3_ n4_ n5_ n6_; clear hb hbox hg)))
  go_loopg [7, 8] k (fun kq v7 v8 w' => ∃ (x7_1 : Int) (x8_1 : Int), v7 = .int .i64 x7_1 ∧ v8 = .int .i64 x8_1 ∧ Aside0 (shuttleref12_weigh.l0 kq a1 x7_1 x8_1 a0_0 a0_1 a0_2 a0_3 a0_4 a0_5 a0_6 a2_0 a2_1 a2_2 a2_3 = some r) ∧ Aside0 (kq ≤ k) ∧ Aside0 (w'.heap[gb199]? = some (.cells #[.int .i64 a0_0, .int .i64 a0_1, .int .u8 a0_2, .int .u8 a0_3, .int .u8 a0_4, .int .u8 a0_5, .int .u8 a0_6] 58 (0, 0))) ∧ Aside0 (w'.heap[gb200]? = some (.cells #[.int .i64 a2_0, .int .i64 a2_1, .int .i64 a2_2, .int .i64 a2_3] 22 (0, 0))) ∧ Aside0 (Below w.heap.size w w'))
  case atStart => exact ⟨(0), (0), (by first | rfl | (simp; done) | (simp [*]; done)), (by first | rfl | (simp; done) | (simp [*]; done)), H', ⟨Nat.le_refl _⟩, ⟨by (with_reducible repeat (first | refine blk_drewN ?_ _ | refine blk_drew ?_ | refine blk_alloc ?_ _)); exact BK199.out⟩, ⟨by (with_reducible repeat (first | refine blk_drewN ?_ _ | refine blk_drew ?_ | refine blk_alloc ?_ _)); exact BK200.out⟩, ⟨by repeat (first | (with_reducible first | exact HB.out | apply below_alloc | apply pw_below_drewN | apply below_drew1 | refine below_set ?_ GE199.out | refine below_set ?_ GE200.out) | exact HB.out)⟩⟩
  case round =>
    clear H'
    try clear p2
    try clear c3
    obtain ⟨x7_1, x8_1, rfl, rfl, HA, HK1, BK199, BK200, HB⟩ := hrel
    cases gk with
    | zero => exact absurd HA.out (by simp [shuttleref12_weigh.l0])
    | succ k1 =>
      have H := HA.out
      clear HA
      simp only [shuttleref12_weigh.l0] at H
      by_cases c6 : x8_1 < 4
      · rw [if_pos c6] at H
        have c6b0 : decide (x8_1 < 4) = true := decide_eq_true c6
        clear c6
        by_cases c7 : x8_1 = 0
        · rw [if_pos c7] at H
          subst c7
          replace H := Option.bind_eq_some_iff.mp H
          obtain ⟨t204, A80, H⟩ := H
          replace H : (if t204 = 0 then (shuttleref12_weigh.l0 k1 a1 (wrap64 (x7_1 + (wrap64 ((wrap64 (a0_3)) * a2_0)))) (0 + 1) a0_0 a0_1 a0_2 a0_3 a0_4 a0_5 a0_6 a2_0 a2_1 a2_2 a2_3) else (if t204 = 1 then (shuttleref12_weigh.l0 k1 a1 (wrap64 (x7_1 + (wrap64 ((wrap64 (a0_3)) * a2_1)))) (0 + 1) a0_0 a0_1 a0_2 a0_3 a0_4 a0_5 a0_6 a2_0 a2_1 a2_2 a2_3) else (if t204 = 2 then (shuttleref12_weigh.l0 k1 a1 (wrap64 (x7_1 + (wrap64 ((wrap64 (a0_3)) * a2_2)))) (0 + 1) a0_0 a0_1 a0_2 a0_3 a0_4 a0_5 a0_6 a2_0 a2_1 a2_2 a2_3) else (if t204 = 3 then (shuttleref12_weigh.l0 k1 a1 (wrap64 (x7_1 + (wrap64 ((wrap64 (a0_3)) * a2_3)))) (0 + 1) a0_0 a0_1 a0_2 a0_3 a0_4 a0_5 a0_6 a2_0 a2_1 a2_2 a2_3) else (none))))) = some r := H
          have A8 := Aside0.mk A80
          clear A80
          by_cases c9 : t204 = 0
          · rw [if_pos c9] at H
            subst c9
            have H' := Aside0.mk H
            clear H
            have hnb10 := NB199_200.out
            have hnc10 := NB200_199.out
            have hcz11_0 : wr.cell? ⟨gb199, 0, none⟩ = some (.int .i64 a0_0) := (blk_cell BK199.out 0).trans rfl
            have hcz11_1 : wr.cell? ⟨gb199, 1, none⟩ = some (.int .i64 a0_1) := (blk_cell BK199.out 1).trans rfl
            have hcz11_2 : wr.cell? ⟨gb199, 2, none⟩ = some (.int .u8 a0_2) := (blk_cell BK199.out 2).trans rfl
            have hcz11_3 : wr.cell? ⟨gb199, 3, none⟩ = some (.int .u8 a0_3) := (blk_cell BK199.out 3).trans rfl
            have hcz11_4 : wr.cell? ⟨gb199, 4, none⟩ = some (.int .u8 a0_4) := (blk_cell BK199.out 4).trans rfl
            have hcz11_5 : wr.cell? ⟨gb199, 5, none⟩ = some (.int .u8 a0_5) := (blk_cell BK199.out 5).trans rfl
            have hcz11_6 : wr.cell? ⟨gb199, 6, none⟩ = some (.int .u8 a0_6) := (blk_cell BK199.out 6).trans rfl
            have hfz11_0 := blk_frozen BK199.out 0
            have hfz11_1 := blk_frozen BK199.out 1
            have hfz11_2 := blk_frozen BK199.out 2
            have hfz11_3 := blk_frozen BK199.out 3
            have hfz11_4 := blk_frozen BK199.out 4
            have hfz11_5 := blk_frozen BK199.out 5
            have hfz11_6 := blk_frozen BK199.out 6
            have hcz12_0 : wr.cell? ⟨gb200, 0, none⟩ = some (.int .i64 a2_0) := (blk_cell BK200.out 0).trans rfl
            have hcz12_1 : wr.cell? ⟨gb200, 1, none⟩ = some (.int .i64 a2_1) := (blk_cell BK200.out 1).trans rfl
            have hcz12_2 : wr.cell? ⟨gb200, 2, none⟩ = some (.int .i64 a2_2) := (blk_cell BK200.out 2).trans rfl
            have hcz12_3 : wr.cell? ⟨gb200, 3, none⟩ = some (.int .i64 a2_3) := (blk_cell BK200.out 3).trans rfl
            have hfz12_0 := blk_frozen BK200.out 0
            have hfz12_1 := blk_frozen BK200.out 1
            have hfz12_2 := blk_frozen BK200.out 2
            have hfz12_3 := blk_frozen BK200.out 3
            go_wp2_with (first | (go_at_call 30; (with_reducible refine (shuttleref10_Version.calls k1 0 a1 0 _ A8.out).mono ?_); rintro e w' ⟨rfl, ⟨nd, rfl⟩⟩; (try first | exact ⟨rfl, _, World.drewN_drewN _ _ _⟩ | exact ⟨rfl, _, Eq.trans (World.drewN_drewN _ _ _) (congrArg (World.drewN _) (Nat.add_assoc _ _ _))⟩)))
            repeat ((with_reducible refine gate_quiet ?_); go_quiet (first | (go_at_call 30; (with_reducible refine (shuttleref10_Version.calls k1 0 a1 0 _ A8.out).mono ?_); rintro e w' ⟨rfl, ⟨nd, rfl⟩⟩; (try first | exact ⟨rfl, _, World.drewN_drewN _ _ _⟩ | exact ⟨rfl, _, Eq.trans (World.drewN_drewN _ _ _) (congrArg (World.drewN _) (Nat.add_assoc _ _ _))⟩))); try go_wp2_with (first | (go_at_call 30; (with_reducible refine (shuttleref10_Version.calls k1 0 a1 0 _ A8.out).mono ?_); rintro e w' ⟨rfl, ⟨nd, rfl⟩⟩; (try first | exact ⟨rfl, _, World.drewN_drewN _ _ _⟩ | exact ⟨rfl, _, Eq.trans (World.drewN_drewN _ _ _) (congrArg (World.drewN _) (Nat.add_assoc _ _ _))⟩))))
            go_roundg k1
            case measure => have := HK1.out; omega
            case rel => exact ⟨(wrap64 (x7_1 + (wrap64 ((wrap64 (a0_3)) * a2_0)))), (0 + 1), (by first | rfl | (simp; done) | (simp [*]; done)), (by first | rfl | (simp; done) | (simp [*]; done)), H', ⟨by have := HK1.out; omega⟩, ⟨by (with_reducible repeat (first | refine blk_drewN ?_ _ | refine blk_drew ?_ | refine blk_alloc ?_ _)); exact BK199.out⟩, ⟨by (with_reducible repeat (first | refine blk_drewN ?_ _ | refine blk_drew ?_ | refine blk_alloc ?_ _)); exact BK200.out⟩, ⟨by repeat (first | (with_reducible first | exact HB.out | apply below_alloc | apply pw_below_drewN | apply below_drew1 | refine below_set ?_ GE199.out | refine below_set ?_ GE200.out) | exact HB.out)⟩⟩
          · rw [if_neg c9] at H
            clear c9
            by_cases c13 : t204 = 1
            · rw [if_pos c13] at H
              subst c13
              have H' := Aside0.mk H
              clear H
              have hnb14 := NB199_200.out
              have hnc14 := NB200_199.out
              have hcz15_0 : wr.cell? ⟨gb199, 0, none⟩ = some (.int .i64 a0_0) := (blk_cell BK199.out 0).trans rfl
              have hcz15_1 : wr.cell? ⟨gb199, 1, none⟩ = some (.int .i64 a0_1) := (blk_cell BK199.out 1).trans rfl
              have hcz15_2 : wr.cell? ⟨gb199, 2, none⟩ = some (.int .u8 a0_2) := (blk_cell BK199.out 2).trans rfl
              have hcz15_3 : wr.cell? ⟨gb199, 3, none⟩ = some (.int .u8 a0_3) := (blk_cell BK199.out 3).trans rfl
              have hcz15_4 : wr.cell? ⟨gb199, 4, none⟩ = some (.int .u8 a0_4) := (blk_cell BK199.out 4).trans rfl
              have hcz15_5 : wr.cell? ⟨gb199, 5, none⟩ = some (.int .u8 a0_5) := (blk_cell BK199.out 5).trans rfl
              have hcz15_6 : wr.cell? ⟨gb199, 6, none⟩ = some (.int .u8 a0_6) := (blk_cell BK199.out 6).trans rfl
              have hfz15_0 := blk_frozen BK199.out 0
              have hfz15_1 := blk_frozen BK199.out 1
              have hfz15_2 := blk_frozen BK199.out 2
              have hfz15_3 := blk_frozen BK199.out 3
              have hfz15_4 := blk_frozen BK199.out 4
              have hfz15_5 := blk_frozen BK199.out 5
              have hfz15_6 := blk_frozen BK199.out 6
              have hcz16_0 : wr.cell? ⟨gb200, 0, none⟩ = some (.int .i64 a2_0) := (blk_cell BK200.out 0).trans rfl
              have hcz16_1 : wr.cell? ⟨gb200, 1, none⟩ = some (.int .i64 a2_1) := (blk_cell BK200.out 1).trans rfl
              have hcz16_2 : wr.cell? ⟨gb200, 2, none⟩ = some (.int .i64 a2_2) := (blk_cell BK200.out 2).trans rfl
              have hcz16_3 : wr.cell? ⟨gb200, 3, none⟩ = some (.int .i64 a2_3) := (blk_cell BK200.out 3).trans rfl
              have hfz16_0 := blk_frozen BK200.out 0
              have hfz16_1 := blk_frozen BK200.out 1
              have hfz16_2 := blk_frozen BK200.out 2
              have hfz16_3 := blk_frozen BK200.out 3
              go_wp2_with (first | (go_at_call 30; (with_reducible refine (shuttleref10_Version.calls k1 0 a1 1 _ A8.out).mono ?_); rintro e w' ⟨rfl, ⟨nd, rfl⟩⟩; (try first | exact ⟨rfl, _, World.drewN_drewN _ _ _⟩ | exact ⟨rfl, _, Eq.trans (World.drewN_drewN _ _ _) (congrArg (World.drewN _) (Nat.add_assoc _ _ _))⟩)))
              repeat ((with_reducible refine gate_quiet ?_); go_quiet (first | (go_at_call 30; (with_reducible refine (shuttleref10_Version.calls k1 0 a1 1 _ A8.out).mono ?_); rintro e w' ⟨rfl, ⟨nd, rfl⟩⟩; (try first | exact ⟨rfl, _, World.drewN_drewN _ _ _⟩ | exact ⟨rfl, _, Eq.trans (World.drewN_drewN _ _ _) (congrArg (World.drewN _) (Nat.add_assoc _ _ _))⟩))); try go_wp2_with (first | (go_at_call 30; (with_reducible refine (shuttleref10_Version.calls k1 0 a1 1 _ A8.out).mono ?_); rintro e w' ⟨rfl, ⟨nd, rfl⟩⟩; (try first | exact ⟨rfl, _, World.drewN_drewN _ _ _⟩ | exact ⟨rfl, _, Eq.trans (World.drewN_drewN _ _ _) (congrArg (World.drewN _) (Nat.add_assoc _ _ _))⟩))))
              go_roundg k1
              case measure => have := HK1.out; omega
              case rel => exact ⟨(wrap64 (x7_1 + (wrap64 ((wrap64 (a0_3)) * a2_1)))), (0 + 1), (by first | rfl | (simp; done) | (simp [*]; done)), (by first | rfl | (simp; done) | (simp [*]; done)), H', ⟨by have := HK1.out; omega⟩, ⟨by (with_reducible repeat (first | refine blk_drewN ?_ _ | refine blk_drew ?_ | refine blk_alloc ?_ _)); exact BK199.out⟩, ⟨by (with_reducible repeat (first | refine blk_drewN ?_ _ | refine blk_drew ?_ | refine blk_alloc ?_ _)); exact BK200.out⟩, ⟨by repeat (first | (with_reducible first | exact HB.out | apply below_alloc | apply pw_below_drewN | apply below_drew1 | refine below_set ?_ GE199.out | refine below_set ?_ GE200.out) | exact HB.out)⟩⟩
            · rw [if_neg c13] at H
              clear c13
              by_cases c17 : t204 = 2
              · rw [if_pos c17] at H
                subst c17
                have H' := Aside0.mk H
                clear H
                have hnb18 := NB199_200.out
                have hnc18 := NB200_199.out
                have hcz19_0 : wr.cell? ⟨gb199, 0, none⟩ = some (.int .i64 a0_0) := (blk_cell BK199.out 0).trans rfl
                have hcz19_1 : wr.cell? ⟨gb199, 1, none⟩ = some (.int .i64 a0_1) := (blk_cell BK199.out 1).trans rfl
                have hcz19_2 : wr.cell? ⟨gb199, 2, none⟩ = some (.int .u8 a0_2) := (blk_cell BK199.out 2).trans rfl
                have hcz19_3 : wr.cell? ⟨gb199, 3, none⟩ = some (.int .u8 a0_3) := (blk_cell BK199.out 3).trans rfl
                have hcz19_4 : wr.cell? ⟨gb199, 4, none⟩ = some (.int .u8 a0_4) := (blk_cell BK199.out 4).trans rfl
                have hcz19_5 : wr.cell? ⟨gb199, 5, none⟩ = some (.int .u8 a0_5) := (blk_cell BK199.out 5).trans rfl
                have hcz19_6 : wr.cell? ⟨gb199, 6, none⟩ = some (.int .u8 a0_6) := (blk_cell BK199.out 6).trans rfl
                have hfz19_0 := blk_frozen BK199.out 0
                have hfz19_1 := blk_frozen BK199.out 1
                have hfz19_2 := blk_frozen BK199.out 2
                have hfz19_3 := blk_frozen BK199.out 3
                have hfz19_4 := blk_frozen BK199.out 4
                have hfz19_5 := blk_frozen BK199.out 5
                have hfz19_6 := blk_frozen BK199.out 6
                have hcz20_0 : wr.cell? ⟨gb200, 0, none⟩ = some (.int .i64 a2_0) := (blk_cell BK200.out 0).trans rfl
                have hcz20_1 : wr.cell? ⟨gb200, 1, none⟩ = some (.int .i64 a2_1) := (blk_cell BK200.out 1).trans rfl
                have hcz20_2 : wr.cell? ⟨gb200, 2, none⟩ = some (.int .i64 a2_2) := (blk_cell BK200.out 2).trans rfl
                have hcz20_3 : wr.cell? ⟨gb200, 3, none⟩ = some (.int .i64 a2_3) := (blk_cell BK200.out 3).trans rfl
                have hfz20_0 := blk_frozen BK200.out 0
                have hfz20_1 := blk_frozen BK200.out 1
                have hfz20_2 := blk_frozen BK200.out 2
                have hfz20_3 := blk_frozen BK200.out 3
                go_wp2_with (first | (go_at_call 30; (with_reducible refine (shuttleref10_Version.calls k1 0 a1 2 _ A8.out).mono ?_); rintro e w' ⟨rfl, ⟨nd, rfl⟩⟩; (try first | exact ⟨rfl, _, World.drewN_drewN _ _ _⟩ | exact ⟨rfl, _, Eq.trans (World.drewN_drewN _ _ _) (congrArg (World.drewN _) (Nat.add_assoc _ _ _))⟩)))
                repeat ((with_reducible refine gate_quiet ?_); go_quiet (first | (go_at_call 30; (with_reducible refine (shuttleref10_Version.calls k1 0 a1 2 _ A8.out).mono ?_); rintro e w' ⟨rfl, ⟨nd, rfl⟩⟩; (try first | exact ⟨rfl, _, World.drewN_drewN _ _ _⟩ | exact ⟨rfl, _, Eq.trans (World.drewN_drewN _ _ _) (congrArg (World.drewN _) (Nat.add_assoc _ _ _))⟩))); try go_wp2_with (first | (go_at_call 30; (with_reducible refine (shuttleref10_Version.calls k1 0 a1 2 _ A8.out).mono ?_); rintro e w' ⟨rfl, ⟨nd, rfl⟩⟩; (try first | exact ⟨rfl, _, World.drewN_drewN _ _ _⟩ | exact ⟨rfl, _, Eq.trans (World.drewN_drewN _ _ _) (congrArg (World.drewN _) (Nat.add_assoc _ _ _))⟩))))
                go_roundg k1
                case measure => have := HK1.out; omega
                case rel => exact ⟨(wrap64 (x7_1 + (wrap64 ((wrap64 (a0_3)) * a2_2)))), (0 + 1), (by first | rfl | (simp; done) | (simp [*]; done)), (by first | rfl | (simp; done) | (simp [*]; done)), H', ⟨by have := HK1.out; omega⟩, ⟨by (with_reducible repeat (first | refine blk_drewN ?_ _ | refine blk_drew ?_ | refine blk_alloc ?_ _)); exact BK199.out⟩, ⟨by (with_reducible repeat (first | refine blk_drewN ?_ _ | refine blk_drew ?_ | refine blk_alloc ?_ _)); exact BK200.out⟩, ⟨by repeat (first | (with_reducible first | exact HB.out | apply below_alloc | apply pw_below_drewN | apply below_drew1 | refine below_set ?_ GE199.out | refine below_set ?_ GE200.out) | exact HB.out)⟩⟩
              · rw [if_neg c17] at H
                clear c17
                by_cases c21 : t204 = 3
                · rw [if_pos c21] at H
                  subst c21
                  have H' := Aside0.mk H
                  clear H
                  have hnb22 := NB199_200.out
                  have hnc22 := NB200_199.out
                  have hcz23_0 : wr.cell? ⟨gb199, 0, none⟩ = some (.int .i64 a0_0) := (blk_cell BK199.out 0).trans rfl
                  have hcz23_1 : wr.cell? ⟨gb199, 1, none⟩ = some (.int .i64 a0_1) := (blk_cell BK199.out 1).trans rfl
                  have hcz23_2 : wr.cell? ⟨gb199, 2, none⟩ = some (.int .u8 a0_2) := (blk_cell BK199.out 2).trans rfl
                  have hcz23_3 : wr.cell? ⟨gb199, 3, none⟩ = some (.int .u8 a0_3) := (blk_cell BK199.out 3).trans rfl
                  have hcz23_4 : wr.cell? ⟨gb199, 4, none⟩ = some (.int .u8 a0_4) := (blk_cell BK199.out 4).trans rfl
                  have hcz23_5 : wr.cell? ⟨gb199, 5, none⟩ = some (.int .u8 a0_5) := (blk_cell BK199.out 5).trans rfl
                  have hcz23_6 : wr.cell? ⟨gb199, 6, none⟩ = some (.int .u8 a0_6) := (blk_cell BK199.out 6).trans rfl
                  have hfz23_0 := blk_frozen BK199.out 0
                  have hfz23_1 := blk_frozen BK199.out 1
                  have hfz23_2 := blk_frozen BK199.out 2
                  have hfz23_3 := blk_frozen BK199.out 3
                  have hfz23_4 := blk_frozen BK199.out 4
                  have hfz23_5 := blk_frozen BK199.out 5
                  have hfz23_6 := blk_frozen BK199.out 6
                  have hcz24_0 : wr.cell? ⟨gb200, 0, none⟩ = some (.int .i64 a2_0) := (blk_cell BK200.out 0).trans rfl
                  have hcz24_1 : wr.cell? ⟨gb200, 1, none⟩ = some (.int .i64 a2_1) := (blk_cell BK200.out 1).trans rfl
                  have hcz24_2 : wr.cell? ⟨gb200, 2, none⟩ = some (.int .i64 a2_2) := (blk_cell BK200.out 2).trans rfl
                  have hcz24_3 : wr.cell? ⟨gb200, 3, none⟩ = some (.int .i64 a2_3) := (blk_cell BK200.out 3).trans rfl
                  have hfz24_0 := blk_frozen BK200.out 0
                  have hfz24_1 := blk_frozen BK200.out 1
                  have hfz24_2 := blk_frozen BK200.out 2
                  have hfz24_3 := blk_frozen BK200.out 3
                  go_wp2_with (first | (go_at_call 30; (with_reducible refine (shuttleref10_Version.calls k1 0 a1 3 _ A8.out).mono ?_); rintro e w' ⟨rfl, ⟨nd, rfl⟩⟩; (try first | exact ⟨rfl, _, World.drewN_drewN _ _ _⟩ | exact ⟨rfl, _, Eq.trans (World.drewN_drewN _ _ _) (congrArg (World.drewN _) (Nat.add_assoc _ _ _))⟩)))
                  repeat ((with_reducible refine gate_quiet ?_); go_quiet (first | (go_at_call 30; (with_reducible refine (shuttleref10_Version.calls k1 0 a1 3 _ A8.out).mono ?_); rintro e w' ⟨rfl, ⟨nd, rfl⟩⟩; (try first | exact ⟨rfl, _, World.drewN_drewN _ _ _⟩ | exact ⟨rfl, _, Eq.trans (World.drewN_drewN _ _ _) (congrArg (World.drewN _) (Nat.add_assoc _ _ _))⟩))); try go_wp2_with (first | (go_at_call 30; (with_reducible refine (shuttleref10_Version.calls k1 0 a1 3 _ A8.out).mono ?_); rintro e w' ⟨rfl, ⟨nd, rfl⟩⟩; (try first | exact ⟨rfl, _, World.drewN_drewN _ _ _⟩ | exact ⟨rfl, _, Eq.trans (World.drewN_drewN _ _ _) (congrArg (World.drewN _) (Nat.add_assoc _ _ _))⟩))))
                  go_roundg k1
                  case measure => have := HK1.out; omega
                  case rel => exact ⟨(wrap64 (x7_1 + (wrap64 ((wrap64 (a0_3)) * a2_3)))), (0 + 1), (by first | rfl | (simp; done) | (simp [*]; done)), (by first | rfl | (simp; done) | (simp [*]; done)), H', ⟨by have := HK1.out; omega⟩, ⟨by (with_reducible repeat (first | refine blk_drewN ?_ _ | refine blk_drew ?_ | refine blk_alloc ?_ _)); exact BK199.out⟩, ⟨by (with_reducible repeat (first | refine blk_drewN ?_ _ | refine blk_drew ?_ | refine blk_alloc ?_ _)); exact BK200.out⟩, ⟨by repeat (first | (with_reducible first | exact HB.out | apply below_alloc | apply pw_below_drewN | apply below_drew1 | refine below_set ?_ GE199.out | refine below_set ?_ GE200.out) | exact HB.out)⟩⟩
                · rw [if_neg c21] at H
                  clear c21
                  exact absurd H (by simp)
        · rw [if_neg c7] at H
          clear c7
          by_cases c25 : x8_1 = 1
          · rw [if_pos c25] at H
            subst c25
            replace H := Option.bind_eq_some_iff.mp H
            obtain ⟨t203, A260, H⟩ := H
            replace H : (if t203 = 0 then (shuttleref12_weigh.l0 k1 a1 (wrap64 (x7_1 + (wrap64 ((wrap64 (a0_4)) * a2_0)))) (1 + 1) a0_0 a0_1 a0_2 a0_3 a0_4 a0_5 a0_6 a2_0 a2_1 a2_2 a2_3) else (if t203 = 1 then (shuttleref12_weigh.l0 k1 a1 (wrap64 (x7_1 + (wrap64 ((wrap64 (a0_4)) * a2_1)))) (1 + 1) a0_0 a0_1 a0_2 a0_3 a0_4 a0_5 a0_6 a2_0 a2_1 a2_2 a2_3) else (if t203 = 2 then (shuttleref12_weigh.l0 k1 a1 (wrap64 (x7_1 + (wrap64 ((wrap64 (a0_4)) * a2_2)))) (1 + 1) a0_0 a0_1 a0_2 a0_3 a0_4 a0_5 a0_6 a2_0 a2_1 a2_2 a2_3) else (if t203 = 3 then (shuttleref12_weigh.l0 k1 a1 (wrap64 (x7_1 + (wrap64 ((wrap64 (a0_4)) * a2_3)))) (1 + 1) a0_0 a0_1 a0_2 a0_3 a0_4 a0_5 a0_6 a2_0 a2_1 a2_2 a2_3) else (none))))) = some r := H
            have A26 := Aside0.mk A260
            clear A260
            by_cases c27 : t203 = 0
            · rw [if_pos c27] at H
              subst c27
              have H' := Aside0.mk H
              clear H
              have hnb28 := NB199_200.out
              have hnc28 := NB200_199.out
              have hcz29_0 : wr.cell? ⟨gb199, 0, none⟩ = some (.int .i64 a0_0) := (blk_cell BK199.out 0).trans rfl
              have hcz29_1 : wr.cell? ⟨gb199, 1, none⟩ = some (.int .i64 a0_1) := (blk_cell BK199.out 1).trans rfl
              have hcz29_2 : wr.cell? ⟨gb199, 2, none⟩ = some (.int .u8 a0_2) := (blk_cell BK199.out 2).trans rfl
              have hcz29_3 : wr.cell? ⟨gb199, 3, none⟩ = some (.int .u8 a0_3) := (blk_cell BK199.out 3).trans rfl
              have hcz29_4 : wr.cell? ⟨gb199, 4, none⟩ = some (.int .u8 a0_4) := (blk_cell BK199.out 4).trans rfl
              have hcz29_5 : wr.cell? ⟨gb199, 5, none⟩ = some (.int .u8 a0_5) := (blk_cell BK199.out 5).trans rfl
              have hcz29_6 : wr.cell? ⟨gb199, 6, none⟩ = some (.int .u8 a0_6) := (blk_cell BK199.out 6).trans rfl
              have hfz29_0 := blk_frozen BK199.out 0
              have hfz29_1 := blk_frozen BK199.out 1
              have hfz29_2 := blk_frozen BK199.out 2
              have hfz29_3 := blk_frozen BK199.out 3
              have hfz29_4 := blk_frozen BK199.out 4
              have hfz29_5 := blk_frozen BK199.out 5
              have hfz29_6 := blk_frozen BK199.out 6
              have hcz30_0 : wr.cell? ⟨gb200, 0, none⟩ = some (.int .i64 a2_0) := (blk_cell BK200.out 0).trans rfl
              have hcz30_1 : wr.cell? ⟨gb200, 1, none⟩ = some (.int .i64 a2_1) := (blk_cell BK200.out 1).trans rfl
              have hcz30_2 : wr.cell? ⟨gb200, 2, none⟩ = some (.int .i64 a2_2) := (blk_cell BK200.out 2).trans rfl
              have hcz30_3 : wr.cell? ⟨gb200, 3, none⟩ = some (.int .i64 a2_3) := (blk_cell BK200.out 3).trans rfl
              have hfz30_0 := blk_frozen BK200.out 0
              have hfz30_1 := blk_frozen BK200.out 1
              have hfz30_2 := blk_frozen BK200.out 2
              have hfz30_3 := blk_frozen BK200.out 3
              go_wp2_with (first | (go_at_call 30; (with_reducible refine (shuttleref10_Version.calls k1 1 a1 0 _ A26.out).mono ?_); rintro e w' ⟨rfl, ⟨nd, rfl⟩⟩; (try first | exact ⟨rfl, _, World.drewN_drewN _ _ _⟩ | exact ⟨rfl, _, Eq.trans (World.drewN_drewN _ _ _) (congrArg (World.drewN _) (Nat.add_assoc _ _ _))⟩)))
              repeat ((with_reducible refine gate_quiet ?_); go_quiet (first | (go_at_call 30; (with_reducible refine (shuttleref10_Version.calls k1 1 a1 0 _ A26.out).mono ?_); rintro e w' ⟨rfl, ⟨nd, rfl⟩⟩; (try first | exact ⟨rfl, _, World.drewN_drewN _ _ _⟩ | exact ⟨rfl, _, Eq.trans (World.drewN_drewN _ _ _) (congrArg (World.drewN _) (Nat.add_assoc _ _ _))⟩))); try go_wp2_with (first | (go_at_call 30; (with_reducible refine (shuttleref10_Version.calls k1 1 a1 0 _ A26.out).mono ?_); rintro e w' ⟨rfl, ⟨nd, rfl⟩⟩; (try first | exact ⟨rfl, _, World.drewN_drewN _ _ _⟩ | exact ⟨rfl, _, Eq.trans (World.drewN_drewN _ _ _) (congrArg (World.drewN _) (Nat.add_assoc _ _ _))⟩))))
              go_roundg k1
              case measure => have := HK1.out; omega
              case rel => exact ⟨(wrap64 (x7_1 + (wrap64 ((wrap64 (a0_4)) * a2_0)))), (1 + 1), (by first | rfl | (simp; done) | (simp [*]; done)), (by first | rfl | (simp; done) | (simp [*]; done)), H', ⟨by have := HK1.out; omega⟩, ⟨by (with_reducible repeat (first | refine blk_drewN ?_ _ | refine blk_drew ?_ | refine blk_alloc ?_ _)); exact BK199.out⟩, ⟨by (with_reducible repeat (first | refine blk_drewN ?_ _ | refine blk_drew ?_ | refine blk_alloc ?_ _)); exact BK200.out⟩, ⟨by repeat (first | (with_reducible first | exact HB.out | apply below_alloc | apply pw_below_drewN | apply below_drew1 | refine below_set ?_ GE199.out | refine below_set ?_ GE200.out) | exact HB.out)⟩⟩
            · rw [if_neg c27] at H
              clear c27
              by_cases c31 : t203 = 1
              · rw [if_pos c31] at H
                subst c31
                have H' := Aside0.mk H
                clear H
                have hnb32 := NB199_200.out
                have hnc32 := NB200_199.out
                have hcz33_0 : wr.cell? ⟨gb199, 0, none⟩ = some (.int .i64 a0_0) := (blk_cell BK199.out 0).trans rfl
                have hcz33_1 : wr.cell? ⟨gb199, 1, none⟩ = some (.int .i64 a0_1) := (blk_cell BK199.out 1).trans rfl
                have hcz33_2 : wr.cell? ⟨gb199, 2, none⟩ = some (.int .u8 a0_2) := (blk_cell BK199.out 2).trans rfl
                have hcz33_3 : wr.cell? ⟨gb199, 3, none⟩ = some (.int .u8 a0_3) := (blk_cell BK199.out 3).trans rfl
                have hcz33_4 : wr.cell? ⟨gb199, 4, none⟩ = some (.int .u8 a0_4) := (blk_cell BK199.out 4).trans rfl
                have hcz33_5 : wr.cell? ⟨gb199, 5, none⟩ = some (.int .u8 a0_5) := (blk_cell BK199.out 5).trans rfl
                have hcz33_6 : wr.cell? ⟨gb199, 6, none⟩ = some (.int .u8 a0_6) := (blk_cell BK199.out 6).trans rfl
                have hfz33_0 := blk_frozen BK199.out 0
                have hfz33_1 := blk_frozen BK199.out 1
                have hfz33_2 := blk_frozen BK199.out 2
                have hfz33_3 := blk_frozen BK199.out 3
                have hfz33_4 := blk_frozen BK199.out 4
                have hfz33_5 := blk_frozen BK199.out 5
                have hfz33_6 := blk_frozen BK199.out 6
                have hcz34_0 : wr.cell? ⟨gb200, 0, none⟩ = some (.int .i64 a2_0) := (blk_cell BK200.out 0).trans rfl
                have hcz34_1 : wr.cell? ⟨gb200, 1, none⟩ = some (.int .i64 a2_1) := (blk_cell BK200.out 1).trans rfl
                have hcz34_2 : wr.cell? ⟨gb200, 2, none⟩ = some (.int .i64 a2_2) := (blk_cell BK200.out 2).trans rfl
                have hcz34_3 : wr.cell? ⟨gb200, 3, none⟩ = some (.int .i64 a2_3) := (blk_cell BK200.out 3).trans rfl
                have hfz34_0 := blk_frozen BK200.out 0
                have hfz34_1 := blk_frozen BK200.out 1
                have hfz34_2 := blk_frozen BK200.out 2
                have hfz34_3 := blk_frozen BK200.out 3
                go_wp2_with (first | (go_at_call 30; (with_reducible refine (shuttleref10_Version.calls k1 1 a1 1 _ A26.out).mono ?_); rintro e w' ⟨rfl, ⟨nd, rfl⟩⟩; (try first | exact ⟨rfl, _, World.drewN_drewN _ _ _⟩ | exact ⟨rfl, _, Eq.trans (World.drewN_drewN _ _ _) (congrArg (World.drewN _) (Nat.add_assoc _ _ _))⟩)))
                repeat ((with_reducible refine gate_quiet ?_); go_quiet (first | (go_at_call 30; (with_reducible refine (shuttleref10_Version.calls k1 1 a1 1 _ A26.out).mono ?_); rintro e w' ⟨rfl, ⟨nd, rfl⟩⟩; (try first | exact ⟨rfl, _, World.drewN_drewN _ _ _⟩ | exact ⟨rfl, _, Eq.trans (World.drewN_drewN _ _ _) (congrArg (World.drewN _) (Nat.add_assoc _ _ _))⟩))); try go_wp2_with (first | (go_at_call 30; (with_reducible refine (shuttleref10_Version.calls k1 1 a1 1 _ A26.out).mono ?_); rintro e w' ⟨rfl, ⟨nd, rfl⟩⟩; (try first | exact ⟨rfl, _, World.drewN_drewN _ _ _⟩ | exact ⟨rfl, _, Eq.trans (World.drewN_drewN _ _ _) (congrArg (World.drewN _) (Nat.add_assoc _ _ _))⟩))))
                go_roundg k1
                case measure => have := HK1.out; omega
                case rel => exact ⟨(wrap64 (x7_1 + (wrap64 ((wrap64 (a0_4)) * a2_1)))), (1 + 1), (by first | rfl | (simp; done) | (simp [*]; done)), (by first | rfl | (simp; done) | (simp [*]; done)), H', ⟨by have := HK1.out; omega⟩, ⟨by (with_reducible repeat (first | refine blk_drewN ?_ _ | refine blk_drew ?_ | refine blk_alloc ?_ _)); exact BK199.out⟩, ⟨by (with_reducible repeat (first | refine blk_drewN ?_ _ | refine blk_drew ?_ | refine blk_alloc ?_ _)); exact BK200.out⟩, ⟨by repeat (first | (with_reducible first | exact HB.out | apply below_alloc | apply pw_below_drewN | apply below_drew1 | refine below_set ?_ GE199.out | refine below_set ?_ GE200.out) | exact HB.out)⟩⟩
              · rw [if_neg c31] at H
                clear c31
                by_cases c35 : t203 = 2
                · rw [if_pos c35] at H
                  subst c35
                  have H' := Aside0.mk H
                  clear H
                  have hnb36 := NB199_200.out
                  have hnc36 := NB200_199.out
                  have hcz37_0 : wr.cell? ⟨gb199, 0, none⟩ = some (.int .i64 a0_0) := (blk_cell BK199.out 0).trans rfl
                  have hcz37_1 : wr.cell? ⟨gb199, 1, none⟩ = some (.int .i64 a0_1) := (blk_cell BK199.out 1).trans rfl
                  have hcz37_2 : wr.cell? ⟨gb199, 2, none⟩ = some (.int .u8 a0_2) := (blk_cell BK199.out 2).trans rfl
                  have hcz37_3 : wr.cell? ⟨gb199, 3, none⟩ = some (.int .u8 a0_3) := (blk_cell BK199.out 3).trans rfl
                  have hcz37_4 : wr.cell? ⟨gb199, 4, none⟩ = some (.int .u8 a0_4) := (blk_cell BK199.out 4).trans rfl
                  have hcz37_5 : wr.cell? ⟨gb199, 5, none⟩ = some (.int .u8 a0_5) := (blk_cell BK199.out 5).trans rfl
                  have hcz37_6 : wr.cell? ⟨gb199, 6, none⟩ = some (.int .u8 a0_6) := (blk_cell BK199.out 6).trans rfl
                  have hfz37_0 := blk_frozen BK199.out 0
                  have hfz37_1 := blk_frozen BK199.out 1
                  have hfz37_2 := blk_frozen BK199.out 2
                  have hfz37_3 := blk_frozen BK199.out 3
                  have hfz37_4 := blk_frozen BK199.out 4
                  have hfz37_5 := blk_frozen BK199.out 5
                  have hfz37_6 := blk_frozen BK199.out 6
                  have hcz38_0 : wr.cell? ⟨gb200, 0, none⟩ = some (.int .i64 a2_0) := (blk_cell BK200.out 0).trans rfl
                  have hcz38_1 : wr.cell? ⟨gb200, 1, none⟩ = some (.int .i64 a2_1) := (blk_cell BK200.out 1).trans rfl
                  have hcz38_2 : wr.cell? ⟨gb200, 2, none⟩ = some (.int .i64 a2_2) := (blk_cell BK200.out 2).trans rfl
                  have hcz38_3 : wr.cell? ⟨gb200, 3, none⟩ = some (.int .i64 a2_3) := (blk_cell BK200.out 3).trans rfl
                  have hfz38_0 := blk_frozen BK200.out 0
                  have hfz38_1 := blk_frozen BK200.out 1
                  have hfz38_2 := blk_frozen BK200.out 2
                  have hfz38_3 := blk_frozen BK200.out 3
                  go_wp2_with (first | (go_at_call 30; (with_reducible refine (shuttleref10_Version.calls k1 1 a1 2 _ A26.out).mono ?_); rintro e w' ⟨rfl, ⟨nd, rfl⟩⟩; (try first | exact ⟨rfl, _, World.drewN_drewN _ _ _⟩ | exact ⟨rfl, _, Eq.trans (World.drewN_drewN _ _ _) (congrArg (World.drewN _) (Nat.add_assoc _ _ _))⟩)))
                  repeat ((with_reducible refine gate_quiet ?_); go_quiet (first | (go_at_call 30; (with_reducible refine (shuttleref10_Version.calls k1 1 a1 2 _ A26.out).mono ?_); rintro e w' ⟨rfl, ⟨nd, rfl⟩⟩; (try first | exact ⟨rfl, _, World.drewN_drewN _ _ _⟩ | exact ⟨rfl, _, Eq.trans (World.drewN_drewN _ _ _) (congrArg (World.drewN _) (Nat.add_assoc _ _ _))⟩))); try go_wp2_with (first | (go_at_call 30; (with_reducible refine (shuttleref10_Version.calls k1 1 a1 2 _ A26.out).mono ?_); rintro e w' ⟨rfl, ⟨nd, rfl⟩⟩; (try first | exact ⟨rfl, _, World.drewN_drewN _ _ _⟩ | exact ⟨rfl, _, Eq.trans (World.drewN_drewN _ _ _) (congrArg (World.drewN _) (Nat.add_assoc _ _ _))⟩))))
                  go_roundg k1
                  case measure => have := HK1.out; omega
                  case rel => exact ⟨(wrap64 (x7_1 + (wrap64 ((wrap64 (a0_4)) * a2_2)))), (1 + 1), (by first | rfl | (simp; done) | (simp [*]; done)), (by first | rfl | (simp; done) | (simp [*]; done)), H', ⟨by have := HK1.out; omega⟩, ⟨by (with_reducible repeat (first | refine blk_drewN ?_ _ | refine blk_drew ?_ | refine blk_alloc ?_ _)); exact BK199.out⟩, ⟨by (with_reducible repeat (first | refine blk_drewN ?_ _ | refine blk_drew ?_ | refine blk_alloc ?_ _)); exact BK200.out⟩, ⟨by repeat (first | (with_reducible first | exact HB.out | apply below_alloc | apply pw_below_drewN | apply below_drew1 | refine below_set ?_ GE199.out | refine below_set ?_ GE200.out) | exact HB.out)⟩⟩
                · rw [if_neg c35] at H
                  clear c35
                  by_cases c39 : t203 = 3
                  · rw [if_pos c39] at H
                    subst c39
                    have H' := Aside0.mk H
                    clear H
                    have hnb40 := NB199_200.out
                    have hnc40 := NB200_199.out
                    have hcz41_0 : wr.cell? ⟨gb199, 0, none⟩ = some (.int .i64 a0_0) := (blk_cell BK199.out 0).trans rfl
                    have hcz41_1 : wr.cell? ⟨gb199, 1, none⟩ = some (.int .i64 a0_1) := (blk_cell BK199.out 1).trans rfl
                    have hcz41_2 : wr.cell? ⟨gb199, 2, none⟩ = some (.int .u8 a0_2) := (blk_cell BK199.out 2).trans rfl
                    have hcz41_3 : wr.cell? ⟨gb199, 3, none⟩ = some (.int .u8 a0_3) := (blk_cell BK199.out 3).trans rfl
                    have hcz41_4 : wr.cell? ⟨gb199, 4, none⟩ = some (.int .u8 a0_4) := (blk_cell BK199.out 4).trans rfl
                    have hcz41_5 : wr.cell? ⟨gb199, 5, none⟩ = some (.int .u8 a0_5) := (blk_cell BK199.out 5).trans rfl
                    have hcz41_6 : wr.cell? ⟨gb199, 6, none⟩ = some (.int .u8 a0_6) := (blk_cell BK199.out 6).trans rfl
                    have hfz41_0 := blk_frozen BK199.out 0
                    have hfz41_1 := blk_frozen BK199.out 1
                    have hfz41_2 := blk_frozen BK199.out 2
                    have hfz41_3 := blk_frozen BK199.out 3
                    have hfz41_4 := blk_frozen BK199.out 4
                    have hfz41_5 := blk_frozen BK199.out 5
                    have hfz41_6 := blk_frozen BK199.out 6
                    have hcz42_0 : wr.cell? ⟨gb200, 0, none⟩ = some (.int .i64 a2_0) := (blk_cell BK200.out 0).trans rfl
                    have hcz42_1 : wr.cell? ⟨gb200, 1, none⟩ = some (.int .i64 a2_1) := (blk_cell BK200.out 1).trans rfl
                    have hcz42_2 : wr.cell? ⟨gb200, 2, none⟩ = some (.int .i64 a2_2) := (blk_cell BK200.out 2).trans rfl
                    have hcz42_3 : wr.cell? ⟨gb200, 3, none⟩ = some (.int .i64 a2_3) := (blk_cell BK200.out 3).trans rfl
                    have hfz42_0 := blk_frozen BK200.out 0
                    have hfz42_1 := blk_frozen BK200.out 1
                    have hfz42_2 := blk_frozen BK200.out 2
                    have hfz42_3 := blk_frozen BK200.out 3
                    go_wp2_with (first | (go_at_call 30; (with_reducible refine (shuttleref10_Version.calls k1 1 a1 3 _ A26.out).mono ?_); rintro e w' ⟨rfl, ⟨nd, rfl⟩⟩; (try first | exact ⟨rfl, _, World.drewN_drewN _ _ _⟩ | exact ⟨rfl, _, Eq.trans (World.drewN_drewN _ _ _) (congrArg (World.drewN _) (Nat.add_assoc _ _ _))⟩)))
                    repeat ((with_reducible refine gate_quiet ?_); go_quiet (first | (go_at_call 30; (with_reducible refine (shuttleref10_Version.calls k1 1 a1 3 _ A26.out).mono ?_); rintro e w' ⟨rfl, ⟨nd, rfl⟩⟩; (try first | exact ⟨rfl, _, World.drewN_drewN _ _ _⟩ | exact ⟨rfl, _, Eq.trans (World.drewN_drewN _ _ _) (congrArg (World.drewN _) (Nat.add_assoc _ _ _))⟩))); try go_wp2_with (first | (go_at_call 30; (with_reducible refine (shuttleref10_Version.calls k1 1 a1 3 _ A26.out).mono ?_); rintro e w' ⟨rfl, ⟨nd, rfl⟩⟩; (try first | exact ⟨rfl, _, World.drewN_drewN _ _ _⟩ | exact ⟨rfl, _, Eq.trans (World.drewN_drewN _ _ _) (congrArg (World.drewN _) (Nat.add_assoc _ _ _))⟩))))
                    go_roundg k1
                    case measure => have := HK1.out; omega
                    case rel => exact ⟨(wrap64 (x7_1 + (wrap64 ((wrap64 (a0_4)) * a2_3)))), (1 + 1), (by first | rfl | (simp; done) | (simp [*]; done)), (by first | rfl | (simp; done) | (simp [*]; done)), H', ⟨by have := HK1.out; omega⟩, ⟨by (with_reducible repeat (first | refine blk_drewN ?_ _ | refine blk_drew ?_ | refine blk_alloc ?_ _)); exact BK199.out⟩, ⟨by (with_reducible repeat (first | refine blk_drewN ?_ _ | refine blk_drew ?_ | refine blk_alloc ?_ _)); exact BK200.out⟩, ⟨by repeat (first | (with_reducible first | exact HB.out | apply below_alloc | apply pw_below_drewN | apply below_drew1 | refine below_set ?_ GE199.out | refine below_set ?_ GE200.out) | exact HB.out)⟩⟩
                  · rw [if_neg c39] at H
                    clear c39
                    exact absurd H (by simp)
          · rw [if_neg c25] at H
            clear c25
            by_cases c43 : x8_1 = 2
            · rw [if_pos c43] at H
              subst c43
              replace H := Option.bind_eq_some_iff.mp H
              obtain ⟨t202, A440, H⟩ := H
              replace H : (if t202 = 0 then (shuttleref12_weigh.l0 k1 a1 (wrap64 (x7_1 + (wrap64 ((wrap64 (a0_5)) * a2_0)))) (2 + 1) a0_0 a0_1 a0_2 a0_3 a0_4 a0_5 a0_6 a2_0 a2_1 a2_2 a2_3) else (if t202 = 1 then (shuttleref12_weigh.l0 k1 a1 (wrap64 (x7_1 + (wrap64 ((wrap64 (a0_5)) * a2_1)))) (2 + 1) a0_0 a0_1 a0_2 a0_3 a0_4 a0_5 a0_6 a2_0 a2_1 a2_2 a2_3) else (if t202 = 2 then (shuttleref12_weigh.l0 k1 a1 (wrap64 (x7_1 + (wrap64 ((wrap64 (a0_5)) * a2_2)))) (2 + 1) a0_0 a0_1 a0_2 a0_3 a0_4 a0_5 a0_6 a2_0 a2_1 a2_2 a2_3) else (if t202 = 3 then (shuttleref12_weigh.l0 k1 a1 (wrap64 (x7_1 + (wrap64 ((wrap64 (a0_5)) * a2_3)))) (2 + 1) a0_0 a0_1 a0_2 a0_3 a0_4 a0_5 a0_6 a2_0 a2_1 a2_2 a2_3) else (none))))) = some r := H
              have A44 := Aside0.mk A440
              clear A440
              by_cases c45 : t202 = 0
              · rw [if_pos c45] at H
                subst c45
                have H' := Aside0.mk H
                clear H
                have hnb46 := NB199_200.out
                have hnc46 := NB200_199.out
                have hcz47_0 : wr.cell? ⟨gb199, 0, none⟩ = some (.int .i64 a0_0) := (blk_cell BK199.out 0).trans rfl
                have hcz47_1 : wr.cell? ⟨gb199, 1, none⟩ = some (.int .i64 a0_1) := (blk_cell BK199.out 1).trans rfl
                have hcz47_2 : wr.cell? ⟨gb199, 2, none⟩ = some (.int .u8 a0_2) := (blk_cell BK199.out 2).trans rfl
                have hcz47_3 : wr.cell? ⟨gb199, 3, none⟩ = some (.int .u8 a0_3) := (blk_cell BK199.out 3).trans rfl
                have hcz47_4 : wr.cell? ⟨gb199, 4, none⟩ = some (.int .u8 a0_4) := (blk_cell BK199.out 4).trans rfl
                have hcz47_5 : wr.cell? ⟨gb199, 5, none⟩ = some (.int .u8 a0_5) := (blk_cell BK199.out 5).trans rfl
                have hcz47_6 : wr.cell? ⟨gb199, 6, none⟩ = some (.int .u8 a0_6) := (blk_cell BK199.out 6).trans rfl
                have hfz47_0 := blk_frozen BK199.out 0
                have hfz47_1 := blk_frozen BK199.out 1
                have hfz47_2 := blk_frozen BK199.out 2
                have hfz47_3 := blk_frozen BK199.out 3
                have hfz47_4 := blk_frozen BK199.out 4
                have hfz47_5 := blk_frozen BK199.out 5
                have hfz47_6 := blk_frozen BK199.out 6
                have hcz48_0 : wr.cell? ⟨gb200, 0, none⟩ = some (.int .i64 a2_0) := (blk_cell BK200.out 0).trans rfl
                have hcz48_1 : wr.cell? ⟨gb200, 1, none⟩ = some (.int .i64 a2_1) := (blk_cell BK200.out 1).trans rfl
                have hcz48_2 : wr.cell? ⟨gb200, 2, none⟩ = some (.int .i64 a2_2) := (blk_cell BK200.out 2).trans rfl
                have hcz48_3 : wr.cell? ⟨gb200, 3, none⟩ = some (.int .i64 a2_3) := (blk_cell BK200.out 3).trans rfl
                have hfz48_0 := blk_frozen BK200.out 0
                have hfz48_1 := blk_frozen BK200.out 1
                have hfz48_2 := blk_frozen BK200.out 2
                have hfz48_3 := blk_frozen BK200.out 3
                go_wp2_with (first | (go_at_call 30; (with_reducible refine (shuttleref10_Version.calls k1 2 a1 0 _ A44.out).mono ?_); rintro e w' ⟨rfl, ⟨nd, rfl⟩⟩; (try first | exact ⟨rfl, _, World.drewN_drewN _ _ _⟩ | exact ⟨rfl, _, Eq.trans (World.drewN_drewN _ _ _) (congrArg (World.drewN _) (Nat.add_assoc _ _ _))⟩)))
                repeat ((with_reducible refine gate_quiet ?_); go_quiet (first | (go_at_call 30; (with_reducible refine (shuttleref10_Version.calls k1 2 a1 0 _ A44.out).mono ?_); rintro e w' ⟨rfl, ⟨nd, rfl⟩⟩; (try first | exact ⟨rfl, _, World.drewN_drewN _ _ _⟩ | exact ⟨rfl, _, Eq.trans (World.drewN_drewN _ _ _) (congrArg (World.drewN _) (Nat.add_assoc _ _ _))⟩))); try go_wp2_with (first | (go_at_call 30; (with_reducible refine (shuttleref10_Version.calls k1 2 a1 0 _ A44.out).mono ?_); rintro e w' ⟨rfl, ⟨nd, rfl⟩⟩; (try first | exact ⟨rfl, _, World.drewN_drewN _ _ _⟩ | exact ⟨rfl, _, Eq.trans (World.drewN_drewN _ _ _) (congrArg (World.drewN _) (Nat.add_assoc _ _ _))⟩))))
                go_roundg k1
                case measure => have := HK1.out; omega
                case rel => exact ⟨(wrap64 (x7_1 + (wrap64 ((wrap64 (a0_5)) * a2_0)))), (2 + 1), (by first | rfl | (simp; done) | (simp [*]; done)), (by first | rfl | (simp; done) | (simp [*]; done)), H', ⟨by have := HK1.out; omega⟩, ⟨by (with_reducible repeat (first | refine blk_drewN ?_ _ | refine blk_drew ?_ | refine blk_alloc ?_ _)); exact BK199.out⟩, ⟨by (with_reducible repeat (first | refine blk_drewN ?_ _ | refine blk_drew ?_ | refine blk_alloc ?_ _)); exact BK200.out⟩, ⟨by repeat (first | (with_reducible first | exact HB.out | apply below_alloc | apply pw_below_drewN | apply below_drew1 | refine below_set ?_ GE199.out | refine below_set ?_ GE200.out) | exact HB.out)⟩⟩
              · rw [if_neg c45] at H
                clear c45
                by_cases c49 : t202 = 1
                · rw [if_pos c49] at H
                  subst c49
                  have H' := Aside0.mk H
                  clear H
                  have hnb50 := NB199_200.out
                  have hnc50 := NB200_199.out
                  have hcz51_0 : wr.cell? ⟨gb199, 0, none⟩ = some (.int .i64 a0_0) := (blk_cell BK199.out 0).trans rfl
                  have hcz51_1 : wr.cell? ⟨gb199, 1, none⟩ = some (.int .i64 a0_1) := (blk_cell BK199.out 1).trans rfl
                  have hcz51_2 : wr.cell? ⟨gb199, 2, none⟩ = some (.int .u8 a0_2) := (blk_cell BK199.out 2).trans rfl
                  have hcz51_3 : wr.cell? ⟨gb199, 3, none⟩ = some (.int .u8 a0_3) := (blk_cell BK199.out 3).trans rfl
                  have hcz51_4 : wr.cell? ⟨gb199, 4, none⟩ = some (.int .u8 a0_4) := (blk_cell BK199.out 4).trans rfl
                  have hcz51_5 : wr.cell? ⟨gb199, 5, none⟩ = some (.int .u8 a0_5) := (blk_cell BK199.out 5).trans rfl
                  have hcz51_6 : wr.cell? ⟨gb199, 6, none⟩ = some (.int .u8 a0_6) := (blk_cell BK199.out 6).trans rfl
                  have hfz51_0 := blk_frozen BK199.out 0
                  have hfz51_1 := blk_frozen BK199.out 1
                  have hfz51_2 := blk_frozen BK199.out 2
                  have hfz51_3 := blk_frozen BK199.out 3
                  have hfz51_4 := blk_frozen BK199.out 4
                  have hfz51_5 := blk_frozen BK199.out 5
                  have hfz51_6 := blk_frozen BK199.out 6
                  have hcz52_0 : wr.cell? ⟨gb200, 0, none⟩ = some (.int .i64 a2_0) := (blk_cell BK200.out 0).trans rfl
                  have hcz52_1 : wr.cell? ⟨gb200, 1, none⟩ = some (.int .i64 a2_1) := (blk_cell BK200.out 1).trans rfl
                  have hcz52_2 : wr.cell? ⟨gb200, 2, none⟩ = some (.int .i64 a2_2) := (blk_cell BK200.out 2).trans rfl
                  have hcz52_3 : wr.cell? ⟨gb200, 3, none⟩ = some (.int .i64 a2_3) := (blk_cell BK200.out 3).trans rfl
                  have hfz52_0 := blk_frozen BK200.out 0
                  have hfz52_1 := blk_frozen BK200.out 1
                  have hfz52_2 := blk_frozen BK200.out 2
                  have hfz52_3 := blk_frozen BK200.out 3
                  go_wp2_with (first | (go_at_call 30; (with_reducible refine (shuttleref10_Version.calls k1 2 a1 1 _ A44.out).mono ?_); rintro e w' ⟨rfl, ⟨nd, rfl⟩⟩; (try first | exact ⟨rfl, _, World.drewN_drewN _ _ _⟩ | exact ⟨rfl, _, Eq.trans (World.drewN_drewN _ _ _) (congrArg (World.drewN _) (Nat.add_assoc _ _ _))⟩)))
                  repeat ((with_reducible refine gate_quiet ?_); go_quiet (first | (go_at_call 30; (with_reducible refine (shuttleref10_Version.calls k1 2 a1 1 _ A44.out).mono ?_); rintro e w' ⟨rfl, ⟨nd, rfl⟩⟩; (try first | exact ⟨rfl, _, World.drewN_drewN _ _ _⟩ | exact ⟨rfl, _, Eq.trans (World.drewN_drewN _ _ _) (congrArg (World.drewN _) (Nat.add_assoc _ _ _))⟩))); try go_wp2_with (first | (go_at_call 30; (with_reducible refine (shuttleref10_Version.calls k1 2 a1 1 _ A44.out).mono ?_); rintro e w' ⟨rfl, ⟨nd, rfl⟩⟩; (try first | exact ⟨rfl, _, World.drewN_drewN _ _ _⟩ | exact ⟨rfl, _, Eq.trans (World.drewN_drewN _ _ _) (congrArg (World.drewN _) (Nat.add_assoc _ _ _))⟩))))
                  go_roundg k1
                  case measure => have := HK1.out; omega
                  case rel => exact ⟨(wrap64 (x7_1 + (wrap64 ((wrap64 (a0_5)) * a2_1)))), (2 + 1), (by first | rfl | (simp; done) | (simp [*]; done)), (by first | rfl | (simp; done) | (simp [*]; done)), H', ⟨by have := HK1.out; omega⟩, ⟨by (with_reducible repeat (first | refine blk_drewN ?_ _ | refine blk_drew ?_ | refine blk_alloc ?_ _)); exact BK199.out⟩, ⟨by (with_reducible repeat (first | refine blk_drewN ?_ _ | refine blk_drew ?_ | refine blk_alloc ?_ _)); exact BK200.out⟩, ⟨by repeat (first | (with_reducible first | exact HB.out | apply below_alloc | apply pw_below_drewN | apply below_drew1 | refine below_set ?_ GE199.out | refine below_set ?_ GE200.out) | exact HB.out)⟩⟩
                · rw [if_neg c49] at H
                  clear c49
                  by_cases c53 : t202 = 2
                  · rw [if_pos c53] at H
                    subst c53
                    have H' := Aside0.mk H
                    clear H
                    have hnb54 := NB199_200.out
                    have hnc54 := NB200_199.out
                    have hcz55_0 : wr.cell? ⟨gb199, 0, none⟩ = some (.int .i64 a0_0) := (blk_cell BK199.out 0).trans rfl
                    have hcz55_1 : wr.cell? ⟨gb199, 1, none⟩ = some (.int .i64 a0_1) := (blk_cell BK199.out 1).trans rfl
                    have hcz55_2 : wr.cell? ⟨gb199, 2, none⟩ = some (.int .u8 a0_2) := (blk_cell BK199.out 2).trans rfl
                    have hcz55_3 : wr.cell? ⟨gb199, 3, none⟩ = some (.int .u8 a0_3) := (blk_cell BK199.out 3).trans rfl
                    have hcz55_4 : wr.cell? ⟨gb199, 4, none⟩ = some (.int .u8 a0_4) := (blk_cell BK199.out 4).trans rfl
                    have hcz55_5 : wr.cell? ⟨gb199, 5, none⟩ = some (.int .u8 a0_5) := (blk_cell BK199.out 5).trans rfl
                    have hcz55_6 : wr.cell? ⟨gb199, 6, none⟩ = some (.int .u8 a0_6) := (blk_cell BK199.out 6).trans rfl
                    have hfz55_0 := blk_frozen BK199.out 0
                    have hfz55_1 := blk_frozen BK199.out 1
                    have hfz55_2 := blk_frozen BK199.out 2
                    have hfz55_3 := blk_frozen BK199.out 3
                    have hfz55_4 := blk_frozen BK199.out 4
                    have hfz55_5 := blk_frozen BK199.out 5
                    have hfz55_6 := blk_frozen BK199.out 6
                    have hcz56_0 : wr.cell? ⟨gb200, 0, none⟩ = some (.int .i64 a2_0) := (blk_cell BK200.out 0).trans rfl
                    have hcz56_1 : wr.cell? ⟨gb200, 1, none⟩ = some (.int .i64 a2_1) := (blk_cell BK200.out 1).trans rfl
                    have hcz56_2 : wr.cell? ⟨gb200, 2, none⟩ = some (.int .i64 a2_2) := (blk_cell BK200.out 2).trans rfl
                    have hcz56_3 : wr.cell? ⟨gb200, 3, none⟩ = some (.int .i64 a2_3) := (blk_cell BK200.out 3).trans rfl
                    have hfz56_0 := blk_frozen BK200.out 0
                    have hfz56_1 := blk_frozen BK200.out 1
                    have hfz56_2 := blk_frozen BK200.out 2
                    have hfz56_3 := blk_frozen BK200.out 3
                    go_wp2_with (first | (go_at_call 30; (with_reducible refine (shuttleref10_Version.calls k1 2 a1 2 _ A44.out).mono ?_); rintro e w' ⟨rfl, ⟨nd, rfl⟩⟩; (try first | exact ⟨rfl, _, World.drewN_drewN _ _ _⟩ | exact ⟨rfl, _, Eq.trans (World.drewN_drewN _ _ _) (congrArg (World.drewN _) (Nat.add_assoc _ _ _))⟩)))
                    repeat ((with_reducible refine gate_quiet ?_); go_quiet (first | (go_at_call 30; (with_reducible refine (shuttleref10_Version.calls k1 2 a1 2 _ A44.out).mono ?_); rintro e w' ⟨rfl, ⟨nd, rfl⟩⟩; (try first | exact ⟨rfl, _, World.drewN_drewN _ _ _⟩ | exact ⟨rfl, _, Eq.trans (World.drewN_drewN _ _ _) (congrArg (World.drewN _) (Nat.add_assoc _ _ _))⟩))); try go_wp2_with (first | (go_at_call 30; (with_reducible refine (shuttleref10_Version.calls k1 2 a1 2 _ A44.out).mono ?_); rintro e w' ⟨rfl, ⟨nd, rfl⟩⟩; (try first | exact ⟨rfl, _, World.drewN_drewN _ _ _⟩ | exact ⟨rfl, _, Eq.trans (World.drewN_drewN _ _ _) (congrArg (World.drewN _) (Nat.add_assoc _ _ _))⟩))))
                    go_roundg k1
                    case measure => have := HK1.out; omega
                    case rel => exact ⟨(wrap64 (x7_1 + (wrap64 ((wrap64 (a0_5)) * a2_2)))), (2 + 1), (by first | rfl | (simp; done) | (simp [*]; done)), (by first | rfl | (simp; done) | (simp [*]; done)), H', ⟨by have := HK1.out; omega⟩, ⟨by (with_reducible repeat (first | refine blk_drewN ?_ _ | refine blk_drew ?_ | refine blk_alloc ?_ _)); exact BK199.out⟩, ⟨by (with_reducible repeat (first | refine blk_drewN ?_ _ | refine blk_drew ?_ | refine blk_alloc ?_ _)); exact BK200.out⟩, ⟨by repeat (first | (with_reducible first | exact HB.out | apply below_alloc | apply pw_below_drewN | apply below_drew1 | refine below_set ?_ GE199.out | refine below_set ?_ GE200.out) | exact HB.out)⟩⟩
                  · rw [if_neg c53] at H
                    clear c53
                    by_cases c57 : t202 = 3
                    · rw [if_pos c57] at H
                      subst c57
                      have H' := Aside0.mk H
                      clear H
                      have hnb58 := NB199_200.out
                      have hnc58 := NB200_199.out
                      have hcz59_0 : wr.cell? ⟨gb199, 0, none⟩ = some (.int .i64 a0_0) := (blk_cell BK199.out 0).trans rfl
                      have hcz59_1 : wr.cell? ⟨gb199, 1, none⟩ = some (.int .i64 a0_1) := (blk_cell BK199.out 1).trans rfl
                      have hcz59_2 : wr.cell? ⟨gb199, 2, none⟩ = some (.int .u8 a0_2) := (blk_cell BK199.out 2).trans rfl
                      have hcz59_3 : wr.cell? ⟨gb199, 3, none⟩ = some (.int .u8 a0_3) := (blk_cell BK199.out 3).trans rfl
                      have hcz59_4 : wr.cell? ⟨gb199, 4, none⟩ = some (.int .u8 a0_4) := (blk_cell BK199.out 4).trans rfl
                      have hcz59_5 : wr.cell? ⟨gb199, 5, none⟩ = some (.int .u8 a0_5) := (blk_cell BK199.out 5).trans rfl
                      have hcz59_6 : wr.cell? ⟨gb199, 6, none⟩ = some (.int .u8 a0_6) := (blk_cell BK199.out 6).trans rfl
                      have hfz59_0 := blk_frozen BK199.out 0
                      have hfz59_1 := blk_frozen BK199.out 1
                      have hfz59_2 := blk_frozen BK199.out 2
                      have hfz59_3 := blk_frozen BK199.out 3
                      have hfz59_4 := blk_frozen BK199.out 4
                      have hfz59_5 := blk_frozen BK199.out 5
                      have hfz59_6 := blk_frozen BK199.out 6
                      have hcz60_0 : wr.cell? ⟨gb200, 0, none⟩ = some (.int .i64 a2_0) := (blk_cell BK200.out 0).trans rfl
                      have hcz60_1 : wr.cell? ⟨gb200, 1, none⟩ = some (.int .i64 a2_1) := (blk_cell BK200.out 1).trans rfl
                      have hcz60_2 : wr.cell? ⟨gb200, 2, none⟩ = some (.int .i64 a2_2) := (blk_cell BK200.out 2).trans rfl
                      have hcz60_3 : wr.cell? ⟨gb200, 3, none⟩ = some (.int .i64 a2_3) := (blk_cell BK200.out 3).trans rfl
                      have hfz60_0 := blk_frozen BK200.out 0
                      have hfz60_1 := blk_frozen BK200.out 1
                      have hfz60_2 := blk_frozen BK200.out 2
                      have hfz60_3 := blk_frozen BK200.out 3
                      go_wp2_with (first | (go_at_call 30; (with_reducible refine (shuttleref10_Version.calls k1 2 a1 3 _ A44.out).mono ?_); rintro e w' ⟨rfl, ⟨nd, rfl⟩⟩; (try first | exact ⟨rfl, _, World.drewN_drewN _ _ _⟩ | exact ⟨rfl, _, Eq.trans (World.drewN_drewN _ _ _) (congrArg (World.drewN _) (Nat.add_assoc _ _ _))⟩)))
                      repeat ((with_reducible refine gate_quiet ?_); go_quiet (first | (go_at_call 30; (with_reducible refine (shuttleref10_Version.calls k1 2 a1 3 _ A44.out).mono ?_); rintro e w' ⟨rfl, ⟨nd, rfl⟩⟩; (try first | exact ⟨rfl, _, World.drewN_drewN _ _ _⟩ | exact ⟨rfl, _, Eq.trans (World.drewN_drewN _ _ _) (congrArg (World.drewN _) (Nat.add_assoc _ _ _))⟩))); try go_wp2_with (first | (go_at_call 30; (with_reducible refine (shuttleref10_Version.calls k1 2 a1 3 _ A44.out).mono ?_); rintro e w' ⟨rfl, ⟨nd, rfl⟩⟩; (try first | exact ⟨rfl, _, World.drewN_drewN _ _ _⟩ | exact ⟨rfl, _, Eq.trans (World.drewN_drewN _ _ _) (congrArg (World.drewN _) (Nat.add_assoc _ _ _))⟩))))
                      go_roundg k1
                      case measure => have := HK1.out; omega
                      case rel => exact ⟨(wrap64 (x7_1 + (wrap64 ((wrap64 (a0_5)) * a2_3)))), (2 + 1), (by first | rfl | (simp; done) | (simp [*]; done)), (by first | rfl | (simp; done) | (simp [*]; done)), H', ⟨by have := HK1.out; omega⟩, ⟨by (with_reducible repeat (first | refine blk_drewN ?_ _ | refine blk_drew ?_ | refine blk_alloc ?_ _)); exact BK199.out⟩, ⟨by (with_reducible repeat (first | refine blk_drewN ?_ _ | refine blk_drew ?_ | refine blk_alloc ?_ _)); exact BK200.out⟩, ⟨by repeat (first | (with_reducible first | exact HB.out | apply below_alloc | apply pw_below_drewN | apply below_drew1 | refine below_set ?_ GE199.out | refine below_set ?_ GE200.out) | exact HB.out)⟩⟩
                    · rw [if_neg c57] at H
                      clear c57
                      exact absurd H (by simp)
            · rw [if_neg c43] at H
              clear c43
              by_cases c61 : x8_1 = 3
              · rw [if_pos c61] at H
                subst c61
                replace H := Option.bind_eq_some_iff.mp H
                obtain ⟨t201, A620, H⟩ := H
                replace H : (if t201 = 0 then (shuttleref12_weigh.l0 k1 a1 (wrap64 (x7_1 + (wrap64 ((wrap64 (a0_6)) * a2_0)))) (3 + 1) a0_0 a0_1 a0_2 a0_3 a0_4 a0_5 a0_6 a2_0 a2_1 a2_2 a2_3) else (if t201 = 1 then (shuttleref12_weigh.l0 k1 a1 (wrap64 (x7_1 + (wrap64 ((wrap64 (a0_6)) * a2_1)))) (3 + 1) a0_0 a0_1 a0_2 a0_3 a0_4 a0_5 a0_6 a2_0 a2_1 a2_2 a2_3) else (if t201 = 2 then (shuttleref12_weigh.l0 k1 a1 (wrap64 (x7_1 + (wrap64 ((wrap64 (a0_6)) * a2_2)))) (3 + 1) a0_0 a0_1 a0_2 a0_3 a0_4 a0_5 a0_6 a2_0 a2_1 a2_2 a2_3) else (if t201 = 3 then (shuttleref12_weigh.l0 k1 a1 (wrap64 (x7_1 + (wrap64 ((wrap64 (a0_6)) * a2_3)))) (3 + 1) a0_0 a0_1 a0_2 a0_3 a0_4 a0_5 a0_6 a2_0 a2_1 a2_2 a2_3) else (none))))) = some r := H
                have A62 := Aside0.mk A620
                clear A620
                by_cases c63 : t201 = 0
                · rw [if_pos c63] at H
                  subst c63
                  have H' := Aside0.mk H
                  clear H
                  have hnb64 := NB199_200.out
                  have hnc64 := NB200_199.out
                  have hcz65_0 : wr.cell? ⟨gb199, 0, none⟩ = some (.int .i64 a0_0) := (blk_cell BK199.out 0).trans rfl
                  have hcz65_1 : wr.cell? ⟨gb199, 1, none⟩ = some (.int .i64 a0_1) := (blk_cell BK199.out 1).trans rfl
                  have hcz65_2 : wr.cell? ⟨gb199, 2, none⟩ = some (.int .u8 a0_2) := (blk_cell BK199.out 2).trans rfl
                  have hcz65_3 : wr.cell? ⟨gb199, 3, none⟩ = some (.int .u8 a0_3) := (blk_cell BK199.out 3).trans rfl
                  have hcz65_4 : wr.cell? ⟨gb199, 4, none⟩ = some (.int .u8 a0_4) := (blk_cell BK199.out 4).trans rfl
                  have hcz65_5 : wr.cell? ⟨gb199, 5, none⟩ = some (.int .u8 a0_5) := (blk_cell BK199.out 5).trans rfl
                  have hcz65_6 : wr.cell? ⟨gb199, 6, none⟩ = some (.int .u8 a0_6) := (blk_cell BK199.out 6).trans rfl
                  have hfz65_0 := blk_frozen BK199.out 0
                  have hfz65_1 := blk_frozen BK199.out 1
                  have hfz65_2 := blk_frozen BK199.out 2
                  have hfz65_3 := blk_frozen BK199.out 3
                  have hfz65_4 := blk_frozen BK199.out 4
                  have hfz65_5 := blk_frozen BK199.out 5
                  have hfz65_6 := blk_frozen BK199.out 6
                  have hcz66_0 : wr.cell? ⟨gb200, 0, none⟩ = some (.int .i64 a2_0) := (blk_cell BK200.out 0).trans rfl
                  have hcz66_1 : wr.cell? ⟨gb200, 1, none⟩ = some (.int .i64 a2_1) := (blk_cell BK200.out 1).trans rfl
                  have hcz66_2 : wr.cell? ⟨gb200, 2, none⟩ = some (.int .i64 a2_2) := (blk_cell BK200.out 2).trans rfl
                  have hcz66_3 : wr.cell? ⟨gb200, 3, none⟩ = some (.int .i64 a2_3) := (blk_cell BK200.out 3).trans rfl
                  have hfz66_0 := blk_frozen BK200.out 0
                  have hfz66_1 := blk_frozen BK200.out 1
                  have hfz66_2 := blk_frozen BK200.out 2
                  have hfz66_3 := blk_frozen BK200.out 3
                  go_wp2_with (first | (go_at_call 30; (with_reducible refine (shuttleref10_Version.calls k1 3 a1 0 _ A62.out).mono ?_); rintro e w' ⟨rfl, ⟨nd, rfl⟩⟩; (try first | exact ⟨rfl, _, World.drewN_drewN _ _ _⟩ | exact ⟨rfl, _, Eq.trans (World.drewN_drewN _ _ _) (congrArg (World.drewN _) (Nat.add_assoc _ _ _))⟩)))
                  repeat ((with_reducible refine gate_quiet ?_); go_quiet (first | (go_at_call 30; (with_reducible refine (shuttleref10_Version.calls k1 3 a1 0 _ A62.out).mono ?_); rintro e w' ⟨rfl, ⟨nd, rfl⟩⟩; (try first | exact ⟨rfl, _, World.drewN_drewN _ _ _⟩ | exact ⟨rfl, _, Eq.trans (World.drewN_drewN _ _ _) (congrArg (World.drewN _) (Nat.add_assoc _ _ _))⟩))); try go_wp2_with (first | (go_at_call 30; (with_reducible refine (shuttleref10_Version.calls k1 3 a1 0 _ A62.out).mono ?_); rintro e w' ⟨rfl, ⟨nd, rfl⟩⟩; (try first | exact ⟨rfl, _, World.drewN_drewN _ _ _⟩ | exact ⟨rfl, _, Eq.trans (World.drewN_drewN _ _ _) (congrArg (World.drewN _) (Nat.add_assoc _ _ _))⟩))))
                  go_roundg k1
                  case measure => have := HK1.out; omega
                  case rel => exact ⟨(wrap64 (x7_1 + (wrap64 ((wrap64 (a0_6)) * a2_0)))), (3 + 1), (by first | rfl | (simp; done) | (simp [*]; done)), (by first | rfl | (simp; done) | (simp [*]; done)), H', ⟨by have := HK1.out; omega⟩, ⟨by (with_reducible repeat (first | refine blk_drewN ?_ _ | refine blk_drew ?_ | refine blk_alloc ?_ _)); exact BK199.out⟩, ⟨by (with_reducible repeat (first | refine blk_drewN ?_ _ | refine blk_drew ?_ | refine blk_alloc ?_ _)); exact BK200.out⟩, ⟨by repeat (first | (with_reducible first | exact HB.out | apply below_alloc | apply pw_below_drewN | apply below_drew1 | refine below_set ?_ GE199.out | refine below_set ?_ GE200.out) | exact HB.out)⟩⟩
                · rw [if_neg c63] at H
                  clear c63
                  by_cases c67 : t201 = 1
                  · rw [if_pos c67] at H
                    subst c67
                    have H' := Aside0.mk H
                    clear H
                    have hnb68 := NB199_200.out
                    have hnc68 := NB200_199.out
                    have hcz69_0 : wr.cell? ⟨gb199, 0, none⟩ = some (.int .i64 a0_0) := (blk_cell BK199.out 0).trans rfl
                    have hcz69_1 : wr.cell? ⟨gb199, 1, none⟩ = some (.int .i64 a0_1) := (blk_cell BK199.out 1).trans rfl
                    have hcz69_2 : wr.cell? ⟨gb199, 2, none⟩ = some (.int .u8 a0_2) := (blk_cell BK199.out 2).trans rfl
                    have hcz69_3 : wr.cell? ⟨gb199, 3, none⟩ = some (.int .u8 a0_3) := (blk_cell BK199.out 3).trans rfl
                    have hcz69_4 : wr.cell? ⟨gb199, 4, none⟩ = some (.int .u8 a0_4) := (blk_cell BK199.out 4).trans rfl
                    have hcz69_5 : wr.cell? ⟨gb199, 5, none⟩ = some (.int .u8 a0_5) := (blk_cell BK199.out 5).trans rfl
                    have hcz69_6 : wr.cell? ⟨gb199, 6, none⟩ = some (.int .u8 a0_6) := (blk_cell BK199.out 6).trans rfl
                    have hfz69_0 := blk_frozen BK199.out 0
                    have hfz69_1 := blk_frozen BK199.out 1
                    have hfz69_2 := blk_frozen BK199.out 2
                    have hfz69_3 := blk_frozen BK199.out 3
                    have hfz69_4 := blk_frozen BK199.out 4
                    have hfz69_5 := blk_frozen BK199.out 5
                    have hfz69_6 := blk_frozen BK199.out 6
                    have hcz70_0 : wr.cell? ⟨gb200, 0, none⟩ = some (.int .i64 a2_0) := (blk_cell BK200.out 0).trans rfl
                    have hcz70_1 : wr.cell? ⟨gb200, 1, none⟩ = some (.int .i64 a2_1) := (blk_cell BK200.out 1).trans rfl
                    have hcz70_2 : wr.cell? ⟨gb200, 2, none⟩ = some (.int .i64 a2_2) := (blk_cell BK200.out 2).trans rfl
                    have hcz70_3 : wr.cell? ⟨gb200, 3, none⟩ = some (.int .i64 a2_3) := (blk_cell BK200.out 3).trans rfl
                    have hfz70_0 := blk_frozen BK200.out 0
                    have hfz70_1 := blk_frozen BK200.out 1
                    have hfz70_2 := blk_frozen BK200.out 2
                    have hfz70_3 := blk_frozen BK200.out 3
                    go_wp2_with (first | (go_at_call 30; (with_reducible refine (shuttleref10_Version.calls k1 3 a1 1 _ A62.out).mono ?_); rintro e w' ⟨rfl, ⟨nd, rfl⟩⟩; (try first | exact ⟨rfl, _, World.drewN_drewN _ _ _⟩ | exact ⟨rfl, _, Eq.trans (World.drewN_drewN _ _ _) (congrArg (World.drewN _) (Nat.add_assoc _ _ _))⟩)))
                    repeat ((with_reducible refine gate_quiet ?_); go_quiet (first | (go_at_call 30; (with_reducible refine (shuttleref10_Version.calls k1 3 a1 1 _ A62.out).mono ?_); rintro e w' ⟨rfl, ⟨nd, rfl⟩⟩; (try first | exact ⟨rfl, _, World.drewN_drewN _ _ _⟩ | exact ⟨rfl, _, Eq.trans (World.drewN_drewN _ _ _) (congrArg (World.drewN _) (Nat.add_assoc _ _ _))⟩))); try go_wp2_with (first | (go_at_call 30; (with_reducible refine (shuttleref10_Version.calls k1 3 a1 1 _ A62.out).mono ?_); rintro e w' ⟨rfl, ⟨nd, rfl⟩⟩; (try first | exact ⟨rfl, _, World.drewN_drewN _ _ _⟩ | exact ⟨rfl, _, Eq.trans (World.drewN_drewN _ _ _) (congrArg (World.drewN _) (Nat.add_assoc _ _ _))⟩))))
                    go_roundg k1
                    case measure => have := HK1.out; omega
                    case rel => exact ⟨(wrap64 (x7_1 + (wrap64 ((wrap64 (a0_6)) * a2_1)))), (3 + 1), (by first | rfl | (simp; done) | (simp [*]; done)), (by first | rfl | (simp; done) | (simp [*]; done)), H', ⟨by have := HK1.out; omega⟩, ⟨by (with_reducible repeat (first | refine blk_drewN ?_ _ | refine blk_drew ?_ | refine blk_alloc ?_ _)); exact BK199.out⟩, ⟨by (with_reducible repeat (first | refine blk_drewN ?_ _ | refine blk_drew ?_ | refine blk_alloc ?_ _)); exact BK200.out⟩, ⟨by repeat (first | (with_reducible first | exact HB.out | apply below_alloc | apply pw_below_drewN | apply below_drew1 | refine below_set ?_ GE199.out | refine below_set ?_ GE200.out) | exact HB.out)⟩⟩
                  · rw [if_neg c67] at H
                    clear c67
                    by_cases c71 : t201 = 2
                    · rw [if_pos c71] at H
                      subst c71
                      have H' := Aside0.mk H
                      clear H
                      have hnb72 := NB199_200.out
                      have hnc72 := NB200_199.out
                      have hcz73_0 : wr.cell? ⟨gb199, 0, none⟩ = some (.int .i64 a0_0) := (blk_cell BK199.out 0).trans rfl
                      have hcz73_1 : wr.cell? ⟨gb199, 1, none⟩ = some (.int .i64 a0_1) := (blk_cell BK199.out 1).trans rfl
                      have hcz73_2 : wr.cell? ⟨gb199, 2, none⟩ = some (.int .u8 a0_2) := (blk_cell BK199.out 2).trans rfl
                      have hcz73_3 : wr.cell? ⟨gb199, 3, none⟩ = some (.int .u8 a0_3) := (blk_cell BK199.out 3).trans rfl
                      have hcz73_4 : wr.cell? ⟨gb199, 4, none⟩ = some (.int .u8 a0_4) := (blk_cell BK199.out 4).trans rfl
                      have hcz73_5 : wr.cell? ⟨gb199, 5, none⟩ = some (.int .u8 a0_5) := (blk_cell BK199.out 5).trans rfl
                      have hcz73_6 : wr.cell? ⟨gb199, 6, none⟩ = some (.int .u8 a0_6) := (blk_cell BK199.out 6).trans rfl
                      have hfz73_0 := blk_frozen BK199.out 0
                      have hfz73_1 := blk_frozen BK199.out 1
                      have hfz73_2 := blk_frozen BK199.out 2
                      have hfz73_3 := blk_frozen BK199.out 3
                      have hfz73_4 := blk_frozen BK199.out 4
                      have hfz73_5 := blk_frozen BK199.out 5
                      have hfz73_6 := blk_frozen BK199.out 6
                      have hcz74_0 : wr.cell? ⟨gb200, 0, none⟩ = some (.int .i64 a2_0) := (blk_cell BK200.out 0).trans rfl
                      have hcz74_1 : wr.cell? ⟨gb200, 1, none⟩ = some (.int .i64 a2_1) := (blk_cell BK200.out 1).trans rfl
                      have hcz74_2 : wr.cell? ⟨gb200, 2, none⟩ = some (.int .i64 a2_2) := (blk_cell BK200.out 2).trans rfl
                      have hcz74_3 : wr.cell? ⟨gb200, 3, none⟩ = some (.int .i64 a2_3) := (blk_cell BK200.out 3).trans rfl
                      have hfz74_0 := blk_frozen BK200.out 0
                      have hfz74_1 := blk_frozen BK200.out 1
                      have hfz74_2 := blk_frozen BK200.out 2
                      have hfz74_3 := blk_frozen BK200.out 3
                      go_wp2_with (first | (go_at_call 30; (with_reducible refine (shuttleref10_Version.calls k1 3 a1 2 _ A62.out).mono ?_); rintro e w' ⟨rfl, ⟨nd, rfl⟩⟩; (try first | exact ⟨rfl, _, World.drewN_drewN _ _ _⟩ | exact ⟨rfl, _, Eq.trans (World.drewN_drewN _ _ _) (congrArg (World.drewN _) (Nat.add_assoc _ _ _))⟩)))
                      repeat ((with_reducible refine gate_quiet ?_); go_quiet (first | (go_at_call 30; (with_reducible refine (shuttleref10_Version.calls k1 3 a1 2 _ A62.out).mono ?_); rintro e w' ⟨rfl, ⟨nd, rfl⟩⟩; (try first | exact ⟨rfl, _, World.drewN_drewN _ _ _⟩ | exact ⟨rfl, _, Eq.trans (World.drewN_drewN _ _ _) (congrArg (World.drewN _) (Nat.add_assoc _ _ _))⟩))); try go_wp2_with (first | (go_at_call 30; (with_reducible refine (shuttleref10_Version.calls k1 3 a1 2 _ A62.out).mono ?_); rintro e w' ⟨rfl, ⟨nd, rfl⟩⟩; (try first | exact ⟨rfl, _, World.drewN_drewN _ _ _⟩ | exact ⟨rfl, _, Eq.trans (World.drewN_drewN _ _ _) (congrArg (World.drewN _) (Nat.add_assoc _ _ _))⟩))))
                      go_roundg k1
                      case measure => have := HK1.out; omega
                      case rel => exact ⟨(wrap64 (x7_1 + (wrap64 ((wrap64 (a0_6)) * a2_2)))), (3 + 1), (by first | rfl | (simp; done) | (simp [*]; done)), (by first | rfl | (simp; done) | (simp [*]; done)), H', ⟨by have := HK1.out; omega⟩, ⟨by (with_reducible repeat (first | refine blk_drewN ?_ _ | refine blk_drew ?_ | refine blk_alloc ?_ _)); exact BK199.out⟩, ⟨by (with_reducible repeat (first | refine blk_drewN ?_ _ | refine blk_drew ?_ | refine blk_alloc ?_ _)); exact BK200.out⟩, ⟨by repeat (first | (with_reducible first | exact HB.out | apply below_alloc | apply pw_below_drewN | apply below_drew1 | refine below_set ?_ GE199.out | refine below_set ?_ GE200.out) | exact HB.out)⟩⟩
                    · rw [if_neg c71] at H
                      clear c71
                      by_cases c75 : t201 = 3
                      · rw [if_pos c75] at H
                        subst c75
                        have H' := Aside0.mk H
                        clear H
                        have hnb76 := NB199_200.out
                        have hnc76 := NB200_199.out
                        have hcz77_0 : wr.cell? ⟨gb199, 0, none⟩ = some (.int .i64 a0_0) := (blk_cell BK199.out 0).trans rfl
                        have hcz77_1 : wr.cell? ⟨gb199, 1, none⟩ = some (.int .i64 a0_1) := (blk_cell BK199.out 1).trans rfl
                        have hcz77_2 : wr.cell? ⟨gb199, 2, none⟩ = some (.int .u8 a0_2) := (blk_cell BK199.out 2).trans rfl
                        have hcz77_3 : wr.cell? ⟨gb199, 3, none⟩ = some (.int .u8 a0_3) := (blk_cell BK199.out 3).trans rfl
                        have hcz77_4 : wr.cell? ⟨gb199, 4, none⟩ = some (.int .u8 a0_4) := (blk_cell BK199.out 4).trans rfl
                        have hcz77_5 : wr.cell? ⟨gb199, 5, none⟩ = some (.int .u8 a0_5) := (blk_cell BK199.out 5).trans rfl
                        have hcz77_6 : wr.cell? ⟨gb199, 6, none⟩ = some (.int .u8 a0_6) := (blk_cell BK199.out 6).trans rfl
                        have hfz77_0 := blk_frozen BK199.out 0
                        have hfz77_1 := blk_frozen BK199.out 1
                        have hfz77_2 := blk_frozen BK199.out 2
                        have hfz77_3 := blk_frozen BK199.out 3
                        have hfz77_4 := blk_frozen BK199.out 4
                        have hfz77_5 := blk_frozen BK199.out 5
                        have hfz77_6 := blk_frozen BK199.out 6
                        have hcz78_0 : wr.cell? ⟨gb200, 0, none⟩ = some (.int .i64 a2_0) := (blk_cell BK200.out 0).trans rfl
                        have hcz78_1 : wr.cell? ⟨gb200, 1, none⟩ = some (.int .i64 a2_1) := (blk_cell BK200.out 1).trans rfl
                        have hcz78_2 : wr.cell? ⟨gb200, 2, none⟩ = some (.int .i64 a2_2) := (blk_cell BK200.out 2).trans rfl
                        have hcz78_3 : wr.cell? ⟨gb200, 3, none⟩ = some (.int .i64 a2_3) := (blk_cell BK200.out 3).trans rfl
                        have hfz78_0 := blk_frozen BK200.out 0
                        have hfz78_1 := blk_frozen BK200.out 1
                        have hfz78_2 := blk_frozen BK200.out 2
                        have hfz78_3 := blk_frozen BK200.out 3
                        go_wp2_with (first | (go_at_call 30; (with_reducible refine (shuttleref10_Version.calls k1 3 a1 3 _ A62.out).mono ?_); rintro e w' ⟨rfl, ⟨nd, rfl⟩⟩; (try first | exact ⟨rfl, _, World.drewN_drewN _ _ _⟩ | exact ⟨rfl, _, Eq.trans (World.drewN_drewN _ _ _) (congrArg (World.drewN _) (Nat.add_assoc _ _ _))⟩)))
                        repeat ((with_reducible refine gate_quiet ?_); go_quiet (first | (go_at_call 30; (with_reducible refine (shuttleref10_Version.calls k1 3 a1 3 _ A62.out).mono ?_); rintro e w' ⟨rfl, ⟨nd, rfl⟩⟩; (try first | exact ⟨rfl, _, World.drewN_drewN _ _ _⟩ | exact ⟨rfl, _, Eq.trans (World.drewN_drewN _ _ _) (congrArg (World.drewN _) (Nat.add_assoc _ _ _))⟩))); try go_wp2_with (first | (go_at_call 30; (with_reducible refine (shuttleref10_Version.calls k1 3 a1 3 _ A62.out).mono ?_); rintro e w' ⟨rfl, ⟨nd, rfl⟩⟩; (try first | exact ⟨rfl, _, World.drewN_drewN _ _ _⟩ | exact ⟨rfl, _, Eq.trans (World.drewN_drewN _ _ _) (congrArg (World.drewN _) (Nat.add_assoc _ _ _))⟩))))
                        go_roundg k1
                        case measure => have := HK1.out; omega
                        case rel => exact ⟨(wrap64 (x7_1 + (wrap64 ((wrap64 (a0_6)) * a2_3)))), (3 + 1), (by first | rfl | (simp; done) | (simp [*]; done)), (by first | rfl | (simp; done) | (simp [*]; done)), H', ⟨by have := HK1.out; omega⟩, ⟨by (with_reducible repeat (first | refine blk_drewN ?_ _ | refine blk_drew ?_ | refine blk_alloc ?_ _)); exact BK199.out⟩, ⟨by (with_reducible repeat (first | refine blk_drewN ?_ _ | refine blk_drew ?_ | refine blk_alloc ?_ _)); exact BK200.out⟩, ⟨by repeat (first | (with_reducible first | exact HB.out | apply below_alloc | apply pw_below_drewN | apply below_drew1 | refine below_set ?_ GE199.out | refine below_set ?_ GE200.out) | exact HB.out)⟩⟩
                      · rw [if_neg c75] at H
                        clear c75
                        exact absurd H (by simp)
              · rw [if_neg c61] at H
                clear c61
                exact absurd H (by simp)
      · rw [if_neg c6] at H
        have c6b0 : decide (x8_1 < 4) = false := decide_eq_false c6
        clear c6
        obtain rfl := Option.some.inj H
        go_wp2
        repeat ((with_reducible refine gate_quiet ?_); go_quiet (fail); try go_wp2)
        go_ret
        exact ⟨by first | rfl | (simp [errW_none, errW_some] <;> rfl) | (simp [*, errW_none, errW_some] <;> rfl), by repeat (first | (with_reducible first | exact HB.out | apply below_alloc | apply pw_below_drewN | apply below_drew1 | refine below_set ?_ GE199.out | refine below_set ?_ GE200.out) | exact HB.out)⟩

end Go.Proofs.YtijpnlmejphfhaaDoor.P

-- YtijpnlmejphfhaaDoorPSRef1
namespace Go.Proofs.YtijpnlmejphfhaaDoor.P
open Go Go.Proofs Go.RowKit Go.Proofs.YtijpnlmejphfhaaDoorW.PrintWords Go.Proofs.YtijpnlmejphfhaaDoorW.PrintLast Go.Proofs.YtijpnlmejphfhaaDoorW.PrintMore
set_option linter.unusedVariables false
set_option linter.unusedSimpArgs false

def stepIs (s i : Nat) : Bool :=
  match shuttleref07_Step.f 20 (s : Int) (i : Int) with
  | some (r1, r2, r3, r4, r5, r6, r7) => decide (r1 = (s : Int)) && decide (r2 = ((dst s i : Nat) : Int)) && decide (r3 = (i : Int)) && decide (r4 = ob s i 0) && decide (r5 = ob s i 1) && decide (r6 = ob s i 2) && decide (r7 = ob s i 3)
  | none => false
theorem step_all : (List.range 64).all (fun s => (List.range 2).all fun i => stepIs s i) = true := by decide +kernel
theorem rstep_f (s i : Nat) (hs : s < 64) (hi : i < 2) : shuttleref07_Step.f 20 (s : Int) (i : Int) = some ((s : Int), ((dst s i : Nat) : Int), (i : Int), ob s i 0, ob s i 1, ob s i 2, ob s i 3) := by
  have h := List.all_eq_true.1 (List.all_eq_true.1 step_all s (List.mem_range.2 hs)) i (List.mem_range.2 hi)
  unfold stepIs at h
  split at h
  · rename_i r1 r2 r3 r4 r5 r6 r7 e
    simp only [Bool.and_eq_true, decide_eq_true_eq] at h
    obtain ⟨⟨⟨⟨⟨⟨rfl, rfl⟩, rfl⟩, rfl⟩, rfl⟩, rfl⟩, rfl⟩ := h
    exact e
  · cases h
variable {a b c d : Int}
theorem wOf_at2 {α : Type} (v : Nat) (hv : v < 4) (K : Int → Option α) : (if ((v : Nat) : Int) = 0 then K a else if ((v : Nat) : Int) = 1 then K b else if ((v : Nat) : Int) = 2 then K c else if ((v : Nat) : Int) = 3 then K d else none) = K (wOf a b c d v) := by
  obtain rfl | rfl | rfl | rfl : v = 0 ∨ v = 1 ∨ v = 2 ∨ v = 3 := by omega
  · rfl
  · rfl
  · rfl
  · rfl
theorem wl0_0 (hW : ∀ v, v < 4 → 0 ≤ wOf a b c d v ∧ wOf a b c d v ≤ 7) (k : Nat) (hk : 9 ≤ k) (t : Nat) (ht : t < 40) (n fr dt i o0 o1 o2 o3 : Int) (ho : o0 = 0 ∨ o0 = 1) (hn : 0 ≤ n ∧ n ≤ 100) :
    shuttleref12_weigh.l0 (k + 1) (t : Int) n 0 fr dt i o0 o1 o2 o3 a b c d = shuttleref12_weigh.l0 k (t : Int) (n + o0 * wOf a b c d (ver 0 t)) 1 fr dt i o0 o1 o2 o3 a b c d := by
  have hv := hW _ (ver_lt 0 t)
  have hb := bwz_ (z := n) ho hv (by rcases ho with e | e <;> rw [e] <;> omega)
  have hr : shuttleref10_Version.f k 0 (t : Int) = some ((ver 0 t : Nat) : Int) := rversionz_f 0 t (by decide) ht k hk
  rw [shuttleref12_weigh.l0.eq_2, if_pos (by decide), if_pos rfl]
  rw [hr]
  simp only [Option.bind_some]
  refine (wOf_at2 (a := a) (b := b) (c := c) (d := d) (ver 0 t) (ver_lt 0 t) (fun z => shuttleref12_weigh.l0 k (t : Int) (wrap64 (n + wrap64 (wrap64 o0 * z))) 1 fr dt i o0 o1 o2 o3 a b c d)).trans ?_
  rw [hb]
theorem wl0_1 (hW : ∀ v, v < 4 → 0 ≤ wOf a b c d v ∧ wOf a b c d v ≤ 7) (k : Nat) (hk : 9 ≤ k) (t : Nat) (ht : t < 40) (n fr dt i o0 o1 o2 o3 : Int) (ho : o1 = 0 ∨ o1 = 1) (hn : 0 ≤ n ∧ n ≤ 100) :
    shuttleref12_weigh.l0 (k + 1) (t : Int) n 1 fr dt i o0 o1 o2 o3 a b c d = shuttleref12_weigh.l0 k (t : Int) (n + o1 * wOf a b c d (ver 1 t)) 2 fr dt i o0 o1 o2 o3 a b c d := by
  have hv := hW _ (ver_lt 1 t)
  have hb := bwz_ (z := n) ho hv (by rcases ho with e | e <;> rw [e] <;> omega)
  have hr : shuttleref10_Version.f k 1 (t : Int) = some ((ver 1 t : Nat) : Int) := rversionz_f 1 t (by decide) ht k hk
  rw [shuttleref12_weigh.l0.eq_2, if_pos (by decide), if_neg (by decide), if_pos rfl]
  rw [hr]
  simp only [Option.bind_some]
  refine (wOf_at2 (a := a) (b := b) (c := c) (d := d) (ver 1 t) (ver_lt 1 t) (fun z => shuttleref12_weigh.l0 k (t : Int) (wrap64 (n + wrap64 (wrap64 o1 * z))) 2 fr dt i o0 o1 o2 o3 a b c d)).trans ?_
  rw [hb]
theorem wl0_2 (hW : ∀ v, v < 4 → 0 ≤ wOf a b c d v ∧ wOf a b c d v ≤ 7) (k : Nat) (hk : 9 ≤ k) (t : Nat) (ht : t < 40) (n fr dt i o0 o1 o2 o3 : Int) (ho : o2 = 0 ∨ o2 = 1) (hn : 0 ≤ n ∧ n ≤ 100) :
    shuttleref12_weigh.l0 (k + 1) (t : Int) n 2 fr dt i o0 o1 o2 o3 a b c d = shuttleref12_weigh.l0 k (t : Int) (n + o2 * wOf a b c d (ver 2 t)) 3 fr dt i o0 o1 o2 o3 a b c d := by
  have hv := hW _ (ver_lt 2 t)
  have hb := bwz_ (z := n) ho hv (by rcases ho with e | e <;> rw [e] <;> omega)
  have hr : shuttleref10_Version.f k 2 (t : Int) = some ((ver 2 t : Nat) : Int) := rversionz_f 2 t (by decide) ht k hk
  rw [shuttleref12_weigh.l0.eq_2, if_pos (by decide), if_neg (by decide), if_neg (by decide), if_pos rfl]
  rw [hr]
  simp only [Option.bind_some]
  refine (wOf_at2 (a := a) (b := b) (c := c) (d := d) (ver 2 t) (ver_lt 2 t) (fun z => shuttleref12_weigh.l0 k (t : Int) (wrap64 (n + wrap64 (wrap64 o2 * z))) 3 fr dt i o0 o1 o2 o3 a b c d)).trans ?_
  rw [hb]
theorem wl0_3 (hW : ∀ v, v < 4 → 0 ≤ wOf a b c d v ∧ wOf a b c d v ≤ 7) (k : Nat) (hk : 9 ≤ k) (t : Nat) (ht : t < 40) (n fr dt i o0 o1 o2 o3 : Int) (ho : o3 = 0 ∨ o3 = 1) (hn : 0 ≤ n ∧ n ≤ 100) :
    shuttleref12_weigh.l0 (k + 1) (t : Int) n 3 fr dt i o0 o1 o2 o3 a b c d = shuttleref12_weigh.l0 k (t : Int) (n + o3 * wOf a b c d (ver 3 t)) 4 fr dt i o0 o1 o2 o3 a b c d := by
  have hv := hW _ (ver_lt 3 t)
  have hb := bwz_ (z := n) ho hv (by rcases ho with e | e <;> rw [e] <;> omega)
  have hr : shuttleref10_Version.f k 3 (t : Int) = some ((ver 3 t : Nat) : Int) := rversionz_f 3 t (by decide) ht k hk
  rw [shuttleref12_weigh.l0.eq_2, if_pos (by decide), if_neg (by decide), if_neg (by decide), if_neg (by decide), if_pos rfl]
  rw [hr]
  simp only [Option.bind_some]
  refine (wOf_at2 (a := a) (b := b) (c := c) (d := d) (ver 3 t) (ver_lt 3 t) (fun z => shuttleref12_weigh.l0 k (t : Int) (wrap64 (n + wrap64 (wrap64 o3 * z))) 4 fr dt i o0 o1 o2 o3 a b c d)).trans ?_
  rw [hb]
theorem rweigh_f (hW : ∀ v, v < 4 → 0 ≤ wOf a b c d v ∧ wOf a b c d v ≤ 7) (t : Nat) (ht : t < 40) (fr dt i o0 o1 o2 o3 : Int) (ho : ∀ j, o4 o0 o1 o2 o3 j = 0 ∨ o4 o0 o1 o2 o3 j = 1) :
    shuttleref12_weigh.f 14 fr dt i o0 o1 o2 o3 (t : Int) a b c d = some (wsum (wOf a b c d) (o4 o0 o1 o2 o3) t 4) := by
  have h := fun j => wsum_in hW ho t j
  have h0 := h 0; have h1 := h 1; have h2 := h 2; have h3 := h 3
  unfold shuttleref12_weigh.f
  rw [wl0_0 hW 13 (by decide) t ht 0 fr dt i o0 o1 o2 o3 (ho 0) (by omega)]
  show shuttleref12_weigh.l0 13 (t : Int) (wsum (wOf a b c d) (o4 o0 o1 o2 o3) t 1) 1 fr dt i o0 o1 o2 o3 a b c d = _
  rw [wl0_1 hW 12 (by decide) t ht _ fr dt i o0 o1 o2 o3 (ho 1) (by omega)]
  show shuttleref12_weigh.l0 12 (t : Int) (wsum (wOf a b c d) (o4 o0 o1 o2 o3) t 2) 2 fr dt i o0 o1 o2 o3 a b c d = _
  rw [wl0_2 hW 11 (by decide) t ht _ fr dt i o0 o1 o2 o3 (ho 2) (by omega)]
  show shuttleref12_weigh.l0 11 (t : Int) (wsum (wOf a b c d) (o4 o0 o1 o2 o3) t 3) 3 fr dt i o0 o1 o2 o3 a b c d = _
  rw [wl0_3 hW 10 (by decide) t ht _ fr dt i o0 o1 o2 o3 (ho 3) (by omega)]
  show shuttleref12_weigh.l0 10 (t : Int) (wsum (wOf a b c d) (o4 o0 o1 o2 o3) t 4) 4 fr dt i o0 o1 o2 o3 a b c d = _
  rw [shuttleref12_weigh.l0.eq_2, if_neg (by decide)]
theorem rweigh_calls (hW : ∀ v, v < 4 → 0 ≤ wOf a b c d v ∧ wOf a b c d v ≤ 7) (s i t : Nat) (ht : t < 4) (fr dt ii : Int) (w : World) :
    Calls Tryd.prog 32 #[.agg #[.int .i64 fr, .int .i64 dt, .int .u8 ii, .int .u8 (ob s i 0), .int .u8 (ob s i 1), .int .u8 (ob s i 2), .int .u8 (ob s i 3)], .int .i64 (t : Int), .agg #[.int .i64 a, .int .i64 b, .int .i64 c, .int .i64 d]] w fun e w' =>
      e = .returned (.int .i64 (ew (wOf a b c d) s i t)) ∧ Below w.heap.size w w' :=
  shuttleref12_weigh.calls 14 _ _ _ _ _ _ _ _ _ _ _ _ _ w (rweigh_f hW t (by omega) fr dt ii _ _ _ _ (o4_ob s i))
end Go.Proofs.YtijpnlmejphfhaaDoor.P

-- YtijpnlmejphfhaaDoorPSRefP
namespace Go.Proofs.YtijpnlmejphfhaaDoor.P
open Go Go.Proofs Go.RowKit Go.Proofs.YtijpnlmejphfhaaDoorW.PrintWords Go.Proofs.YtijpnlmejphfhaaDoorW.PrintLast Go.Proofs.YtijpnlmejphfhaaDoorW.PrintMore
set_option linter.unusedVariables false
set_option linter.unusedSimpArgs false

/-- The step behind a step, modulo four. -/
def nx (t : Nat) : Nat := (t + 1) % 4
theorem nx_lt (t : Nat) : nx t < 4 := Nat.mod_lt _ (by decide)
theorem nx_e (t : Nat) : ((t : Int) + 1) % 4 = (nx t : Int) := by unfold nx; omega
theorem nx_t (t : Nat) : Int.tmod ((t : Int) + 1) 4 = (nx t : Int) := by rw [Int.tmod_eq_emod_of_nonneg (by omega)]; exact nx_e t
theorem nx_w (t : Nat) (h : t < 4) : Int.tmod (wrap64 ((t : Int) + 1)) 4 = (nx t : Int) := by rw [wrap_small (by omega) (by omega)]; exact nx_t t
/-- A way from state 0, by a first edge of bit 1: where it ends, at which step (modulo four), its weight. -/
inductive Way (W : Nat → Int) : Nat → Nat → Nat → Prop
  | first (t : Nat) (h : t < 4) : Way W 32 (nx t) (en W 0 1 t)
  | next (s t x i : Nat) (h : Way W s t x) (hs : s ≠ 0) (hi : i < 2) : Way W (dst s i) (nx t) (x + en W s i t)
/-- The least weight of a detour. -/
def IsLeast (W : Nat → Int) (n : Nat) : Prop := (∃ t, Way W 0 t n) ∧ ∀ t x, Way W 0 t x → n ≤ x
theorem IsLeast.same {W : Nat → Int} {n m : Nat} (h : IsLeast W n) (k : IsLeast W m) : n = m := by
  obtain ⟨t, ht⟩ := h.1
  obtain ⟨u, hu⟩ := k.1
  have h1 := k.2 t n ht
  have h2 := h.2 u m hu
  omega
theorem Way.lt {W : Nat → Int} {s t x : Nat} (h : Way W s t x) : s < 64 ∧ t < 4 := by
  induction h with
  | first t h => exact ⟨by decide, nx_lt t⟩
  | next s t x i h hs hi ih => exact ⟨by unfold dst; omega, nx_lt t⟩
theorem ew_nat {W : Nat → Int} (hW : ∀ v, v < 4 → 0 ≤ W v ∧ W v ≤ 7) (s i t : Nat) : ew W s i t = (en W s i t : Int) := by unfold en; have := (ew_in hW s i t).1; omega
theorem en_le {W : Nat → Int} (hW : ∀ v, v < 4 → 0 ≤ W v ∧ W v ≤ 7) (s i t : Nat) : en W s i t ≤ 28 := by unfold en; have := ew_in hW s i t; omega
def far : Int := 1073741824
/-- How far places are, as far as is known: place (s, t) at 4 s + t. -/
structure LI (W : Nat → Int) (L : List Int) : Prop where
  len : L.length = 256
  val : ∀ s t, s < 64 → t < 4 → L.getD (4 * s + t) 0 = far ∨ ∃ x : Nat, L.getD (4 * s + t) 0 = (x : Int) ∧ (x : Int) < far ∧ Way W s t x
  zero : ∀ t, t < 4 → L.getD t 0 = far
theorem LI.le {W : Nat → Int} {L : List Int} (h : LI W L) (s t : Nat) (hs : s < 64) (ht : t < 4) : 0 ≤ L.getD (4 * s + t) 0 ∧ L.getD (4 * s + t) 0 ≤ far := by
  have hf : far = 1073741824 := rfl
  rcases h.val s t hs ht with e | ⟨x, e, hx, _⟩
  · rw [e]; omega
  · rw [e]; omega
theorem set_getD (L : List Int) (q j : Nat) (v : Int) (hq : q < L.length) : (L.set q v).getD j 0 = if j = q then v else L.getD j 0 := by
  rw [List.getD_eq_getElem?_getD, List.getElem?_set]
  by_cases e : q = j
  · subst e; rw [if_pos rfl, if_pos hq, if_pos rfl]; rfl
  · rw [if_neg e, if_neg (fun h => e h.symm), List.getD_eq_getElem?_getD]
theorem LI.put {W : Nat → Int} {L : List Int} (h : LI W L) (s t x : Nat) (hs : s ≠ 0) (hw : Way W s t x) (hx : (x : Int) < far) : LI W (L.set (4 * s + t) (x : Int)) := by
  have hst := hw.lt
  have hq : 4 * s + t < L.length := by rw [h.len]; omega
  refine ⟨by rw [List.length_set]; exact h.len, fun s' t' hs' ht' => ?_, fun t' ht' => ?_⟩
  · rw [set_getD _ _ _ _ hq]
    by_cases e : 4 * s' + t' = 4 * s + t
    · rw [if_pos e]
      have e1 : s' = s := by omega
      have e2 : t' = t := by omega
      subst e1; subst e2
      exact .inr ⟨x, rfl, hx, hw⟩
    · rw [if_neg e]; exact h.val s' t' hs' ht'
  · rw [set_getD _ _ _ _ hq, if_neg (by omega)]
    exact h.zero t' ht'
theorem LI.start (W : Nat → Int) (L : List Int) (hl : L.length = 256) (h : ∀ q, q < 256 → L.getD q 0 = far) : LI W L :=
  ⟨hl, fun s t hs ht => .inl (h _ (by omega)), fun t ht => h t (by omega)⟩
/-- No list's number is more than another one's. -/
def LeL (L L' : List Int) : Prop := ∀ q, L.getD q 0 ≤ L'.getD q 0
theorem LeL.refl (L : List Int) : LeL L L := fun _ => Int.le_refl _
theorem LeL.set (L : List Int) (q : Nat) (v : Int) (hq : q < L.length) (h : v ≤ L.getD q 0) : LeL (L.set q v) L := fun j => by
  rw [set_getD _ _ _ _ hq]
  by_cases e : j = q
  · rw [if_pos e, e]; exact h
  · rw [if_neg e]; exact Int.le_refl _
/-- Behind the first edges, up to step j. -/
def FI (W : Nat → Int) (L : List Int) (j : Nat) : Prop := ∀ t, t < j → L.getD (128 + nx t) 0 ≤ (en W 0 1 t : Int)
theorem FI.le {W : Nat → Int} {L L' : List Int} {j : Nat} (h : FI W L j) (k : LeL L' L) : FI W L' j := fun t ht => Int.le_trans (k _) (h t ht)
/-- A first edge looked at. -/
theorem first_put {W : Nat → Int} (hW : ∀ v, v < 4 → 0 ≤ W v ∧ W v ≤ 7) {L : List Int} {t : Nat} (ht : t < 4) (hL : LI W L) (hF : FI W L t) (v : Int) (hv : v = if ew W 0 1 t < L.getD (128 + nx t) 0 then ew W 0 1 t else L.getD (128 + nx t) 0) :
    LI W (L.set (128 + nx t) v) ∧ FI W (L.set (128 + nx t) v) (t + 1) := by
  have hq : 128 + nx t < L.length := by rw [hL.len]; have := nx_lt t; omega
  have he := ew_nat hW 0 1 t
  have hle := en_le hW 0 1 t
  have hf : far = 1073741824 := rfl
  have hvl : v ≤ L.getD (128 + nx t) 0 ∧ v ≤ ew W 0 1 t := by rw [hv]; split <;> omega
  have hlst := LeL.set L (128 + nx t) v hq hvl.1
  refine ⟨?_, fun t' ht' => ?_⟩
  · by_cases c : ew W 0 1 t < L.getD (128 + nx t) 0
    · rw [if_pos c] at hv
      rw [hv, he]
      exact hL.put 32 (nx t) _ (by decide) (.first t ht) (by omega)
    · rw [if_neg c] at hv
      have e : L.set (128 + nx t) v = L := by
        rw [hv]
        apply List.ext_getElem?
        intro q
        rw [List.getElem?_set]
        by_cases e : 128 + nx t = q
        · subst e
          rw [if_pos rfl, if_pos hq, List.getD_eq_getElem?_getD, List.getElem?_eq_getElem hq]; rfl
        · rw [if_neg e]
      rw [e]; exact hL
  · by_cases e : t' = t
    · subst e
      rw [set_getD _ _ _ _ hq, if_pos rfl, ← he]; exact hvl.2
    · exact Int.le_trans (hlst _) (hF t' (by omega))
/-- The best that is known. -/
def BI (W : Nat → Int) (b : Int) : Prop := b = far ∨ ∃ x t : Nat, b = (x : Int) ∧ (x : Int) < far ∧ Way W 0 t x
theorem BI.le {W : Nat → Int} {b : Int} (h : BI W b) : 0 ≤ b ∧ b ≤ far := by
  have hf : far = 1073741824 := rfl
  rcases h with rfl | ⟨x, t, rfl, hx, _⟩
  · omega
  · omega
/-- An edge that makes nothing shorter. -/
def Closed (W : Nat → Int) (L : List Int) (b : Int) (s t i : Nat) : Prop :=
  L.getD (4 * s + t) 0 = far ∨ if dst s i = 0 then b ≤ L.getD (4 * s + t) 0 + en W s i t else L.getD (4 * dst s i + nx t) 0 ≤ L.getD (4 * s + t) 0 + en W s i t
def ClosedTo (W : Nat → Int) (L : List Int) (b : Int) (n : Nat) : Prop := ∀ s t i, 1 ≤ s → s < 64 → t < 4 → i < 2 → 8 * s + 2 * t + i < n → Closed W L b s t i
def sumN (L : List Int) : Nat := (L.map Int.toNat).sum
theorem sumN_set : ∀ (L : List Int) (q : Nat) (v : Int), q < L.length → 0 ≤ v → v < L.getD q 0 → sumN (L.set q v) < sumN L
  | x :: L, 0, v, _, h0, h => by
    have h : v < x := h
    unfold sumN
    simp only [List.set_cons_zero, List.map_cons, List.sum_cons]
    omega
  | x :: L, q + 1, v, hq, h0, h => by
    have ih := sumN_set L q v (by simpa using hq) h0 h
    unfold sumN at *
    simp only [List.set_cons_succ, List.map_cons, List.sum_cons]
    omega
/-- A sweep, up to its n-th edge. -/
def SW (W : Nat → Int) (ch : Bool) (L0 L : List Int) (b : Int) (n : Nat) : Prop := (ch = true ∧ sumN L < sumN L0) ∨ (ch = false ∧ L = L0 ∧ ClosedTo W L b n)
/-- Places, firsts, best. -/
structure MI (W : Nat → Int) (L : List Int) (b : Int) : Prop where
  li : LI W L
  fi : FI W L 4
  bi : BI W b
theorem closed_mono {W : Nat → Int} {L : List Int} {b b' : Int} {s t i : Nat} (h : Closed W L b s t i) (hb : b' ≤ b) : Closed W L b' s t i := by
  rcases h with h | h
  · exact .inl h
  · refine .inr ?_
    split
    · rename_i e; rw [if_pos e] at h; omega
    · rename_i e; rw [if_neg e] at h; exact h
theorem ClosedTo.next {W : Nat → Int} {L : List Int} {b : Int} {s t i : Nat} (ht : t < 4) (hi : i < 2) (h : ClosedTo W L b (8 * s + 2 * t + i)) (k : Closed W L b s t i) : ClosedTo W L b (8 * s + 2 * t + (i + 1)) := by
  intro s' t' i' h1 h2 h3 h4 h5
  by_cases e : 8 * s' + 2 * t' + i' < 8 * s + 2 * t + i
  · exact h s' t' i' h1 h2 h3 h4 e
  · have e1 : s' = s := by omega
    have e2 : t' = t := by omega
    have e3 : i' = i := by omega
    subst e1; subst e2; subst e3
    exact k
/-- A place that isn't known: both its edges. -/
theorem SW.skip {W : Nat → Int} {ch : Bool} {L0 L : List Int} {b : Int} {s t : Nat} (ht : t < 4) (h : SW W ch L0 L b (8 * s + 2 * t)) (hf : L.getD (4 * s + t) 0 = far) : SW W ch L0 L b (8 * s + 2 * (t + 1)) := by
  rcases h with h | ⟨h1, h2, h3⟩
  · exact .inl h
  · refine .inr ⟨h1, h2, ?_⟩
    have k0 : ClosedTo W L b (8 * s + 2 * t + 0) := h3
    have k1 := k0.next ht (by decide) (.inl hf)
    exact k1.next ht (by decide) (.inl hf)
/-- An edge to state 0. -/
theorem sw_best {W : Nat → Int} (hW : ∀ v, v < 4 → 0 ≤ W v ∧ W v ≤ 7) {ch : Bool} {L0 L : List Int} {b : Int} {s t i : Nat} (hs1 : 1 ≤ s) (hs : s < 64) (ht : t < 4) (hi : i < 2) (hM : MI W L b) (h : SW W ch L0 L b (8 * s + 2 * t + i)) (hk : L.getD (4 * s + t) 0 < far) (hd : dst s i = 0)
    (b' : Int) (hb : b' = if L.getD (4 * s + t) 0 + ew W s i t < b then L.getD (4 * s + t) 0 + ew W s i t else b) : MI W L b' ∧ SW W ch L0 L b' (8 * s + 2 * t + (i + 1)) := by
  have he := ew_nat hW s i t
  have hbl := hM.bi.le
  have hle : b' ≤ b ∧ b' ≤ L.getD (4 * s + t) 0 + ew W s i t := by rw [hb]; split <;> omega
  refine ⟨⟨hM.li, hM.fi, ?_⟩, ?_⟩
  · by_cases c : L.getD (4 * s + t) 0 + ew W s i t < b
    · rw [if_pos c] at hb
      rcases hM.li.val s t hs ht with e | ⟨x, e, hx, hw⟩
      · omega
      · have hn := Way.next s t x i hw (by omega) hi
        rw [hd] at hn
        exact .inr ⟨x + en W s i t, nx t, by rw [hb, e, he]; omega, by omega, hn⟩
    · rw [if_neg c] at hb
      rw [hb]; exact hM.bi
  · rcases h with h | ⟨h1, h2, h3⟩
    · exact .inl h
    · refine .inr ⟨h1, h2, ?_⟩
      refine ClosedTo.next ht hi (fun s' t' i' a1 a2 a3 a4 a5 => closed_mono (h3 s' t' i' a1 a2 a3 a4 a5) hle.1) (.inr ?_)
      rw [if_pos hd, ← he]; exact hle.2
/-- An edge that makes nothing shorter. -/
theorem sw_keep {W : Nat → Int} (hW : ∀ v, v < 4 → 0 ≤ W v ∧ W v ≤ 7) {ch : Bool} {L0 L : List Int} {b : Int} {s t i : Nat} (ht : t < 4) (hi : i < 2) (h : SW W ch L0 L b (8 * s + 2 * t + i)) (hd : dst s i ≠ 0)
    (hn : ¬ L.getD (4 * s + t) 0 + ew W s i t < L.getD (4 * dst s i + nx t) 0) : SW W ch L0 L b (8 * s + 2 * t + (i + 1)) := by
  rcases h with h | ⟨h1, h2, h3⟩
  · exact .inl h
  · refine .inr ⟨h1, h2, ClosedTo.next ht hi h3 (.inr ?_)⟩
    rw [if_neg hd, ← ew_nat hW]; omega
/-- An edge that makes a place nearer. -/
theorem sw_put {W : Nat → Int} (hW : ∀ v, v < 4 → 0 ≤ W v ∧ W v ≤ 7) {ch : Bool} {L0 L : List Int} {b : Int} {s t i n : Nat} (hs1 : 1 ≤ s) (hs : s < 64) (ht : t < 4) (hi : i < 2) (hM : MI W L b) (h : SW W ch L0 L b n) (hk : L.getD (4 * s + t) 0 < far) (hd : dst s i ≠ 0)
    (hn : L.getD (4 * s + t) 0 + ew W s i t < L.getD (4 * dst s i + nx t) 0) (m : Nat) :
    MI W (L.set (4 * dst s i + nx t) (L.getD (4 * s + t) 0 + ew W s i t)) b ∧ SW W true L0 (L.set (4 * dst s i + nx t) (L.getD (4 * s + t) 0 + ew W s i t)) b m ∧ LeL (L.set (4 * dst s i + nx t) (L.getD (4 * s + t) 0 + ew W s i t)) L := by
  have he := ew_nat hW s i t
  have hdl : dst s i < 64 := by unfold dst; omega
  have hnx := nx_lt t
  have hq : 4 * dst s i + nx t < L.length := by rw [hM.li.len]; omega
  have hl := hM.li.le (dst s i) (nx t) hdl hnx
  have hl2 := hM.li.le s t hs ht
  have hle := LeL.set L (4 * dst s i + nx t) (L.getD (4 * s + t) 0 + ew W s i t) hq (by omega)
  have hsum := sumN_set L (4 * dst s i + nx t) (L.getD (4 * s + t) 0 + ew W s i t) hq (by omega) hn
  refine ⟨⟨?_, hM.fi.le hle, hM.bi⟩, .inl ⟨rfl, ?_⟩, hle⟩
  · rcases hM.li.val s t hs ht with e | ⟨x, e, hx, hw⟩
    · omega
    · have hw2 := Way.next s t x i hw (by omega) hi
      have e2 : L.getD (4 * s + t) 0 + ew W s i t = ((x + en W s i t : Nat) : Int) := by rw [e, he]; omega
      rw [e2]
      exact hM.li.put (dst s i) (nx t) _ hd hw2 (by omega)
  · rcases h with ⟨_, h⟩ | ⟨_, h, _⟩
    · omega
    · rw [← h]; exact hsum
/-- Seven edges back. -/
theorem some_way (W : Nat → Int) (hW : ∀ v, v < 4 → 0 ≤ W v ∧ W v ≤ 7) : ∃ t x, Way W 0 t x ∧ x ≤ 196 := by
  have h0 := Way.first (W := W) 0 (by decide)
  have h1 := Way.next _ _ _ 0 h0 (by decide) (by decide)
  have h2 := Way.next _ _ _ 0 h1 (by decide) (by decide)
  have h3 := Way.next _ _ _ 0 h2 (by decide) (by decide)
  have h4 := Way.next _ _ _ 0 h3 (by decide) (by decide)
  have h5 := Way.next _ _ _ 0 h4 (by decide) (by decide)
  have h6 := Way.next _ _ _ 0 h5 (by decide) (by decide)
  refine ⟨_, _, h6, ?_⟩
  have q := fun s i t => en_le hW s i t
  have q0 := q 0 1 0
  have q1 := q 32 0 (nx 0)
  have q2 := q (dst 32 0) 0 (nx (nx 0))
  have q3 := q (dst (dst 32 0) 0) 0 (nx (nx (nx 0)))
  have q4 := q (dst (dst (dst 32 0) 0) 0) 0 (nx (nx (nx (nx 0))))
  have q5 := q (dst (dst (dst (dst 32 0) 0) 0) 0) 0 (nx (nx (nx (nx (nx 0)))))
  have q6 := q (dst (dst (dst (dst (dst 32 0) 0) 0) 0) 0) 0 (nx (nx (nx (nx (nx (nx 0))))))
  omega
/-- Once nothing is made shorter the best is the least. -/
theorem least_of {W : Nat → Int} (hW : ∀ v, v < 4 → 0 ≤ W v ∧ W v ≤ 7) {L : List Int} {b : Int} (hM : MI W L b) (h : ClosedTo W L b 512) : ∃ n : Nat, b = (n : Int) ∧ IsLeast W n := by
  have hf : far = 1073741824 := rfl
  have key : ∀ s t x, Way W s t x → (x : Int) < far → if s = 0 then b ≤ (x : Int) else L.getD (4 * s + t) 0 ≤ (x : Int) := by
    intro s t x hw
    induction hw with
    | first t ht => intro _; rw [if_neg (by decide)]; exact hM.fi t ht
    | next s t x i hw hs hi ih =>
      intro hx
      have hst := hw.lt
      have ih := ih (by omega)
      rw [if_neg hs] at ih
      have hc := h s t i (by omega) hst.1 hst.2 hi (by omega)
      rcases hc with hc | hc
      · omega
      · split
        · rename_i e; rw [if_pos e] at hc; omega
        · rename_i e; rw [if_neg e] at hc; omega
  obtain ⟨t0, x0, hw0, hx0⟩ := some_way W hW
  have h0 := key 0 t0 x0 hw0 (by omega)
  rw [if_pos rfl] at h0
  rcases hM.bi with e | ⟨n, t, e, hn, hw⟩
  · omega
  · refine ⟨n, e, ⟨t, hw⟩, fun t' x' hw' => ?_⟩
    by_cases c : (x' : Int) < far
    · have := key 0 t' x' hw' c
      rw [if_pos rfl] at this
      omega
    · omega
end Go.Proofs.YtijpnlmejphfhaaDoor.P

-- YtijpnlmejphfhaaDoorPHWay
namespace Go.Proofs.YtijpnlmejphfhaaDoor.P
open Go Go.Proofs Go.RowKit Go.Proofs.YtijpnlmejphfhaaDoorW.PrintWords Go.Proofs.YtijpnlmejphfhaaDoorW.PrintLast Go.Proofs.YtijpnlmejphfhaaDoorW.PrintMore
set_option linter.unusedVariables false
set_option linter.unusedSimpArgs false

theorem ob_all : ∀ w : Fin 128, ∀ j : Fin 4, ob (w.val % 64) (w.val / 64) j.val = bitB (bw w.val) j.val 7 := by decide +kernel
theorem ob_wd {b : Nat → Int} (hb : ∀ j, isb (b j)) (j : Nat) (hj : j < 4) : ob (sd b).toNat (b 0).toNat j = bitB b j 7 := by
  have hw := wd_in hb
  have hs := sd_in hb
  have h0 := isb01 (hb 0)
  have h := ob_all ⟨(wd b).toNat, by omega⟩ ⟨j, hj⟩
  have e : wd b = 64 * b 0 + sd b := rfl
  rw [bitB_wd hb, ← h]
  show ob (sd b).toNat (b 0).toNat j = ob ((wd b).toNat % 64) ((wd b).toNat / 64) j
  rw [show (wd b).toNat % 64 = (sd b).toNat by omega, show (wd b).toNat / 64 = (b 0).toNat by omega]
/-- What a code's first bits weigh. -/
def wcode (W : Nat → Int) (X : List Int) : Nat → Int
  | 0 => 0
  | i + 1 => wcode W X i + X.getD i 0 * W (ver (i % 4) (i / 4))
theorem wcode_in {W : Nat → Int} (hW : ∀ v, v < 4 → 0 ≤ W v ∧ W v ≤ 7) {X : List Int} (hX : ∀ x ∈ X, isb x) : ∀ i : Nat, 0 ≤ wcode W X i ∧ wcode W X i ≤ 7 * (i : Int)
  | 0 => by simp [wcode]
  | i + 1 => by
    have h := wcode_in hW hX i
    have hv := hW _ (ver_lt (i % 4) (i / 4))
    unfold wcode
    rcases getD_isb hX i with e | e <;> rw [e] <;> omega
/-- The state ahead of a step, the bit at it, what the edge weighs. -/
def stN (z : List Int) (t : Nat) : Nat := (sd (lb z t)).toNat
def inN (z : List Int) (t : Nat) : Nat := (lb z t 0).toNat
theorem wsum_mod (W o : Nat → Int) (t : Nat) : ∀ j, wsum W o t j = wsum W o (t % 4) j
  | 0 => rfl
  | j + 1 => by
    unfold wsum
    rw [wsum_mod W o t j, show ver j t = ver j (t % 4) by unfold ver; rw [Nat.mod_mod]]
theorem ew_mod (W : Nat → Int) (s i t : Nat) : ew W s i t = ew W s i (t % 4) := wsum_mod W _ t 4
theorem wcode_step {W : Nat → Int} {X z : List Int} (hz : ∀ x ∈ z, isb x) (t : Nat) (hX : ∀ s, s < 4 → X.getD (4 * t + s) 0 = bitB (lb z t) s 7) :
    wcode W X (4 * (t + 1)) = wcode W X (4 * t) + ew W (stN z t) (inN z t) (t % 4) := by
  have e : ∀ s, s < 4 → ob (stN z t) (inN z t) s = X.getD (4 * t + s) 0 := fun s hs => (ob_wd (lb_isb hz t) s hs).trans (hX s hs).symm
  have q : ∀ s, s < 4 → (4 * t + s) % 4 = s ∧ (4 * t + s) / 4 = t := fun s hs => by omega
  rw [← ew_mod]
  show wcode W X (4 * t + 3 + 1) = _
  unfold ew
  simp only [wcode, wsum, o4]
  rw [e 0 (by decide), e 1 (by decide), e 2 (by decide), e 3 (by decide)]
  rw [(q 1 (by decide)).1, (q 1 (by decide)).2, (q 2 (by decide)).1, (q 2 (by decide)).2, (q 3 (by decide)).1, (q 3 (by decide)).2]
  have q0 := q 0 (by decide)
  simp only [Nat.add_zero] at q0 ⊢
  rw [q0.1, q0.2]
  omega
theorem stN_next {z : List Int} (hz : ∀ x ∈ z, isb x) (t : Nat) : stN z (t + 1) = dst (stN z t) (inN z t) := by
  have h0 := isb01 (lb_isb hz t 0)
  have hs := sd_in (lb_isb hz t)
  have e : wd (lb z t) = 64 * lb z t 0 + sd (lb z t) := rfl
  unfold stN inN dst
  rw [sd_succ z hz t]
  omega
theorem inN_lt {z : List Int} (hz : ∀ x ∈ z, isb x) (t : Nat) : inN z t < 2 := by
  have h0 := isb01 (lb_isb hz t 0)
  unfold inN; omega
theorem way_in {W : Nat → Int} (hW : ∀ v, v < 4 → 0 ≤ W v ∧ W v ≤ 7) {X z : List Int} (hz : ∀ x ∈ z, isb x) (hXb : ∀ x ∈ X, isb x) (n : Nat) (hX : ∀ t s, t < n → s < 4 → X.getD (4 * t + s) 0 = bitB (lb z t) s 7) :
    ∀ t, t ≤ n → (stN z t = 0 ∧ ∀ j, j < t → z.getD j 0 = 0) ∨ (∃ x : Nat, stN z t ≠ 0 ∧ Way W (stN z t) (t % 4) x ∧ (x : Int) ≤ wcode W X (4 * t)) ∨ ∃ u x : Nat, Way W 0 u x ∧ (x : Int) ≤ wcode W X (4 * t)
  | 0, _ => .inl ⟨by unfold stN; rw [sd_start]; rfl, fun j hj => by omega⟩
  | t + 1, ht => by
    have hs := wcode_step (W := W) hz t (fun s hs => hX t s (by omega) hs)
    have he := ew_nat hW (stN z t) (inN z t) (t % 4)
    have hnx : (t + 1) % 4 = nx (t % 4) := by unfold nx; omega
    have hin := inN_lt hz t
    have hst := stN_next hz t
    have hpos := (wcode_in hW hXb (4 * t)).1
    rcases way_in hW hz hXb n hX t (by omega) with ⟨h0, hj⟩ | ⟨x, hne, hw, hx⟩ | ⟨u, x, hw, hx⟩
    · by_cases hi : inN z t = 0
      · refine .inl ⟨by rw [hst, h0, hi]; rfl, fun j hj' => ?_⟩
        by_cases e : j = t
        · have h01 := isb01 (lb_isb hz t 0)
          subst e
          rw [← lb_zero]
          unfold inN at hi; omega
        · exact hj j (by omega)
      · have hi1 : inN z t = 1 := by omega
        refine .inr (.inl ⟨en W 0 1 (t % 4), ?_, ?_, ?_⟩)
        · rw [hst, h0, hi1]; decide
        · rw [hst, h0, hi1, hnx]
          exact Way.first _ (Nat.mod_lt _ (by decide))
        · rw [hs, he, h0, hi1]; omega
    · have hn := Way.next _ _ _ (inN z t) hw hne hin
      rw [← hst, ← hnx] at hn
      by_cases h0 : stN z (t + 1) = 0
      · rw [h0] at hn
        exact .inr (.inr ⟨_, _, hn, by rw [hs, he]; omega⟩)
      · exact .inr (.inl ⟨_, h0, hn, by rw [hs, he]; omega⟩)
    · exact .inr (.inr ⟨u, x, hw, by rw [hs, he]; omega⟩)
theorem holds {W : Nat → Int} (hW : ∀ v, v < 4 → 0 ≤ W v ∧ W v ≤ 7) {a b X : List Int} (ha : ∀ x ∈ a, isb x) (hb : ∀ x ∈ b, isb x) (n m : Nat) (hla : n ≤ a.length) (hlb : n ≤ b.length) (hne : a.take n ≠ b.take n) (hl : IsLeast W m)
    (hXl : X.length = 4 * (n + 6)) (hX : ∀ i, i < 4 * (n + 6) → X.getD i 0 = Go.bits .xor .u8 ((code (a.take n)).getD i 0) ((code (b.take n)).getD i 0)) :
    (m : Int) ≤ wcode W X (4 * (n + 6)) := by
  have ta : (a.take n).length = n := by rw [List.length_take]; omega
  have tb : (b.take n).length = n := by rw [List.length_take]; omega
  have hz := zx_isb ha hb n
  have hX2 : ∀ t s, t < n + 6 → s < 4 → X.getD (4 * t + s) 0 = bitB (lb (zx a b n) t) s 7 := fun t s ht hs => by
    rw [hX _ (by omega), bit_zx ha hb]
    unfold code
    rw [ta, tb, codeN_getD _ t s hs _ ht, codeN_getD _ t s hs _ ht]
  have hXb : ∀ x ∈ X, isb x := fun x hx => by
    obtain ⟨i, hi, rfl⟩ := List.getElem_of_mem hx
    have e : X[i] = X.getD i 0 := by rw [List.getD_eq_getElem?_getD, List.getElem?_eq_getElem hi]; rfl
    have h := hX2 (i / 4) (i % 4) (by omega) (by omega)
    rw [show 4 * (i / 4) + i % 4 = i by omega] at h
    rw [e, h]
    exact bitB_isb (lb_isb hz _) _ _
  have hend : stN (zx a b n) (n + 6) = 0 := by
    have h : ∀ k, k ≤ 6 → lb (zx a b n) (n + 6) k = 0 := fun k hk => by
      unfold lb
      rw [if_pos (by omega), getD_out _ _ (by rw [zx_length]; omega)]
    unfold stN sd
    rw [h 1 (by decide), h 2 (by decide), h 3 (by decide), h 4 (by decide), h 5 (by decide), h 6 (by decide)]; rfl
  rcases way_in hW hz hXb (n + 6) hX2 (n + 6) (Nat.le_refl _) with ⟨_, hj⟩ | ⟨x, h, _⟩ | ⟨u, x, hw, hx⟩
  · exfalso
    apply hne
    refine List.ext_getElem? fun j => ?_
    by_cases c : j < n
    · have h := hj j (by omega)
      rw [zx_getD] at h
      have h1 := getD_isb (take_isb ha n) j
      have h2 := getD_isb (take_isb hb n) j
      have e : (a.take n).getD j 0 = (b.take n).getD j 0 := by
        rcases h1 with e1 | e1 <;> rcases h2 with e2 | e2 <;> rw [e1, e2] at h ⊢
        · exact absurd h (by decide +kernel)
        · exact absurd h (by decide +kernel)
      rw [List.getD_eq_getElem?_getD, List.getD_eq_getElem?_getD, List.getElem?_eq_getElem (by omega), List.getElem?_eq_getElem (by omega)] at e
      rw [List.getElem?_eq_getElem (by omega), List.getElem?_eq_getElem (by omega)]
      exact congrArg some e
    · rw [List.getElem?_eq_none (by omega), List.getElem?_eq_none (by omega)]
  · exact absurd hend h
  · have := hl.2 u x hw
    omega
end Go.Proofs.YtijpnlmejphfhaaDoor.P

-- YtijpnlmejphfhaaDoorP92
namespace Go.Proofs.YtijpnlmejphfhaaDoor.P
open Go.RowKit Go.Proofs.YtijpnlmejphfhaaDoorW.PrintWords Go.Proofs.YtijpnlmejphfhaaDoorW.PrintLast Go.Proofs.YtijpnlmejphfhaaDoorW.PrintMore
attribute [local go_sem] max2_int min2_int max_two min_two max_three min_three max_four min_four   -- for this text's walks alone
set_option linter.unusedVariables false
set_option linter.unusedSimpArgs false

/-! ### shuttleref12_Weight: function 21 -/
def shuttleref12_Weight.l0 : Nat → List Int → Int → Int → Int → Int → Int → Int → Option (Int)
  | 0, _, _, _, _, _, _, _ => none
  | k + 1, x0, x5, x6, x167000, x167001, x167002, x167003 => if x6 < (x0.length : Int) then (if 0 ≤ x6 then ((shuttleref10_Version.f k (Int.tmod x6 4) (wrap64 (Int.tdiv x6 4))).bind fun t168 => (if t168 = 0 then (shuttleref12_Weight.l0 k x0 (wrap64 (x5 + (wrap64 ((wrap64 (rd x0 x6)) * x167000)))) (wrap64 (x6 + 1)) x167000 x167001 x167002 x167003) else (if t168 = 1 then (shuttleref12_Weight.l0 k x0 (wrap64 (x5 + (wrap64 ((wrap64 (rd x0 x6)) * x167001)))) (wrap64 (x6 + 1)) x167000 x167001 x167002 x167003) else (if t168 = 2 then (shuttleref12_Weight.l0 k x0 (wrap64 (x5 + (wrap64 ((wrap64 (rd x0 x6)) * x167002)))) (wrap64 (x6 + 1)) x167000 x167001 x167002 x167003) else (if t168 = 3 then (shuttleref12_Weight.l0 k x0 (wrap64 (x5 + (wrap64 ((wrap64 (rd x0 x6)) * x167003)))) (wrap64 (x6 + 1)) x167000 x167001 x167002 x167003) else (none)))))) else (none)) else (some x5)
def shuttleref12_Weight.f (k : Nat) (l0 : List Int) (a1_0 : Int) (a1_1 : Int) (a1_2 : Int) (a1_3 : Int) : Option (Int) := shuttleref12_Weight.l0 k l0 0 0 a1_0 a1_1 a1_2 a1_3
theorem shuttleref12_Weight.mono_l : ∀ k, (∀ y0 y1 y2 y3 y4 y5 y6, LeO (shuttleref12_Weight.l0 k y0 y1 y2 y3 y4 y5 y6) (shuttleref12_Weight.l0 (k + 1) y0 y1 y2 y3 y4 y5 y6))
  | 0 => fun _ _ _ _ _ _ _ r h => by simp [shuttleref12_Weight.l0] at h
  | k + 1 => by
    have ih0 := shuttleref12_Weight.mono_l k
    · intro y0 y1 y2 y3 y4 y5 y6
      unfold shuttleref12_Weight.l0
      repeat' first
      | (with_reducible exact ih0 _ _ _ _ _ _ _)
      | (with_reducible exact shuttleref10_Version.mono _ _ _)
      | (with_reducible exact LeO.refl _)
      | (with_reducible exact LeO.none _)
      | (with_reducible refine LeO.ite ?_ ?_)
      | (with_reducible refine LeO.bind ?_ (fun _ => ?_))
      | exact ih0 _ _ _ _ _ _ _
      | exact shuttleref10_Version.mono _ _ _
      | exact LeO.none _
      | refine LeO.ite ?_ ?_
      | refine LeO.bind ?_ (fun _ => ?_)
theorem shuttleref12_Weight.mono : ∀ a0 a1 a2 a3 a4 k, LeO (shuttleref12_Weight.f k a0 a1 a2 a3 a4) (shuttleref12_Weight.f (k + 1) a0 a1 a2 a3 a4) := by
  intro a0 a1 a2 a3 a4 k
  have ih0 := shuttleref12_Weight.mono_l k
  unfold shuttleref12_Weight.f
  repeat' first
      | (with_reducible exact ih0 _ _ _ _ _ _ _)
      | (with_reducible exact shuttleref10_Version.mono _ _ _)
      | (with_reducible exact LeO.refl _)
      | (with_reducible exact LeO.none _)
      | (with_reducible refine LeO.ite ?_ ?_)
      | (with_reducible refine LeO.bind ?_ (fun _ => ?_))
      | exact ih0 _ _ _ _ _ _ _
      | exact shuttleref10_Version.mono _ _ _
      | exact LeO.none _
      | refine LeO.ite ?_ ?_
      | refine LeO.bind ?_ (fun _ => ?_)
set_option maxHeartbeats 8000000 in
set_option maxRecDepth 100000 in
theorem shuttleref12_Weight.calls (k : Nat) (A0 : Option Addr) (c0 : Nat) (l0 : List Int) (a1_0 : Int) (a1_1 : Int) (a1_2 : Int) (a1_3 : Int) (r : Int) (w : World) (hr0 : Kd.C (Kd.int .u8) w A0 l0.length l0) (hc0 : l0.length ≤ c0) (h : shuttleref12_Weight.f k l0 a1_0 a1_1 a1_2 a1_3 = some r) :
    Calls Tryd.prog 21 #[.slice A0 l0.length c0, .agg #[.int .i64 a1_0, .int .i64 a1_1, .int .i64 a1_2, .int .i64 a1_3]] w fun e w' => e = .returned (.int .i64 r) ∧ Below w.heap.size w w' := by
  have hu22 := Tryd.underlying22
  have HR0 := Aside0.mk hr0
  have HC0 := Aside0.mk hc0
  clear hr0 hc0
  have HB := Aside0.mk (Below.refl w.heap.size w)
  have H : (shuttleref12_Weight.l0 k l0 0 0 a1_0 a1_1 a1_2 a1_3) = some r := h
  clear h
  have H' := Aside0.mk H
  clear H
  go_enter Tryd.func21, Tryd.ntmps21
  go_wp2_with (first | ((with_reducible refine gate_dst (N := 3) rfl ?_); refine box_event ?hg (N := 3) ?hd (cs := #[.int .i64 a1_0, .int .i64 a1_1, .int .i64 a1_2, .int .i64 a1_3]) (t := 22) ?hr ?_; (case hd => rfl); (case hg => rfl); (case hr => first | (go_simp; done) | (go_simp; rfl)); intro gb166 hg w3 hbox hb; have n0_ := Aside0.mk (below_step (by repeat (first | (with_reducible first | exact HB.out | apply below_alloc | apply pw_below_drewN | apply below_drew1) | exact HB.out)) hb); have n1_ := Aside0.mk (hbox); have n2_ := Aside0.mk ((by rw [hg]; exact (below_size (by repeat (first | (with_reducible first | exact HB.out | apply below_alloc | apply pw_below_drewN | apply below_drew1) | exact HB.out))) : w.heap.size ≤ gb166)); have n3_ := Aside0.mk ((by rw [hg]; exact (below_size (by repeat (first | (with_reducible first | exact HB.out | apply below_alloc | apply pw_below_drewN | apply below_drew1) | exact HB.out))) : w.heap.size ≤ gb166)); clear HB; have HB := n0_; have BK166 := n1_; have GW166 := n2_; have GE166 := n3_; clear n0_ n1_ n2_ n3_; clear hb hbox hg))
  repeat ((with_reducible refine gate_quiet ?_); go_quiet (first | ((with_reducible refine gate_dst (N := 3) rfl ?_); refine box_event ?hg (N := 3) ?hd (cs := #[.int .i64 a1_0, .int .i64 a1_1, .int .i64 a1_2, .int .i64 a1_3]) (t := 22) ?hr ?_; (case hd => rfl); (case hg => rfl); (case hr => first | (go_simp; done) | (go_simp; rfl)); intro gb166 hg w3 hbox hb; have n0_ := Aside0.mk (below_step (by repeat (first | (with_reducible first | exact HB.out | apply below_alloc | apply pw_below_drewN | apply below_drew1) | exact HB.out)) hb); have n1_ := Aside0.mk (hbox); have n2_ := Aside0.mk ((by rw [hg]; exact (below_size (by repeat (first | (with_reducible first | exact HB.out | apply below_alloc | apply pw_below_drewN | apply below_drew1) | exact HB.out))) : w.heap.size ≤ gb166)); have n3_ := Aside0.mk ((by rw [hg]; exact (below_size (by repeat (first | (with_reducible first | exact HB.out | apply below_alloc | apply pw_below_drewN | apply below_drew1) | exact HB.out))) : w.heap.size ≤ gb166)); clear HB; have HB := n0_; have BK166 := n1_; have GW166 := n2_; have GE166 := n3_; clear n0_ n1_ n2_ n3_; clear hb hbox hg)); try go_wp2_with (first | ((with_reducible refine gate_dst (N := 3) rfl ?_); refine box_event ?hg (N := 3) ?hd (cs := #[.int .i64 a1_0, .int .i64 a1_1, .int .i64 a1_2, .int .i64 a1_3]) (t := 22) ?hr ?_; (case hd => rfl); (case hg => rfl); (case hr => first | (go_simp; done) | (go_simp; rfl)); intro gb166 hg w3 hbox hb; have n0_ := Aside0.mk (below_step (by repeat (first | (with_reducible first | exact HB.out | apply below_alloc | apply pw_below_drewN | apply below_drew1) | exact HB.out)) hb); have n1_ := Aside0.mk (hbox); have n2_ := Aside0.mk ((by rw [hg]; exact (below_size (by repeat (first | (with_reducible first | exact HB.out | apply below_alloc | apply pw_below_drewN | apply below_drew1) | exact HB.out))) : w.heap.size ≤ gb166)); have n3_ := Aside0.mk ((by rw [hg]; exact (below_size (by repeat (first | (with_reducible first | exact HB.out | apply below_alloc | apply pw_below_drewN | apply below_drew1) | exact HB.out))) : w.heap.size ≤ gb166)); clear HB; have HB := n0_; have BK166 := n1_; have GW166 := n2_; have GE166 := n3_; clear n0_ n1_ n2_ n3_; clear hb hbox hg)))
  go_loopg [5, 6] k (fun kq v5 v6 w' => ∃ (x5_1 : Int) (x6_1 : Int), v5 = .int .i64 x5_1 ∧ v6 = .int .i64 x6_1 ∧ Aside0 (shuttleref12_Weight.l0 kq l0 x5_1 x6_1 a1_0 a1_1 a1_2 a1_3 = some r) ∧ Aside0 (kq ≤ k) ∧ Aside0 (w'.heap[gb166]? = some (.cells #[.int .i64 a1_0, .int .i64 a1_1, .int .i64 a1_2, .int .i64 a1_3] 22 (0, 0))) ∧ Aside0 (Below w.heap.size w w'))
  case atStart => exact ⟨(0), (0), (by first | rfl | (simp; done) | (simp [*]; done)), (by first | rfl | (simp; done) | (simp [*]; done)), H', ⟨Nat.le_refl _⟩, ⟨by (with_reducible repeat (first | refine blk_drewN ?_ _ | refine blk_drew ?_ | refine blk_alloc ?_ _)); exact BK166.out⟩, ⟨by repeat (first | (with_reducible first | exact HB.out | apply below_alloc | apply pw_below_drewN | apply below_drew1 | refine below_set ?_ GE166.out) | exact HB.out)⟩⟩
  case round =>
    clear H'
    try clear c2
    try clear p2
    obtain ⟨x5_1, x6_1, rfl, rfl, HA, HK1, BK166, HB⟩ := hrel
    cases gk with
    | zero => exact absurd HA.out (by simp [shuttleref12_Weight.l0])
    | succ k1 =>
      have H := HA.out
      clear HA
      simp only [shuttleref12_Weight.l0] at H
      by_cases c4 : x6_1 < (l0.length : Int)
      · rw [if_pos c4] at H
        have c4b0 : decide (x6_1 < (l0.length : Int)) = true := decide_eq_true c4
        clear c4
        by_cases c5 : 0 ≤ x6_1
        · rw [if_pos c5] at H
          have c5b0 : decide (0 ≤ x6_1) = true := decide_eq_true c5
          clear c5
          replace H := Option.bind_eq_some_iff.mp H
          obtain ⟨t168, A60, H⟩ := H
          replace H : (if t168 = 0 then (shuttleref12_Weight.l0 k1 l0 (wrap64 (x5_1 + (wrap64 ((wrap64 (rd l0 x6_1)) * a1_0)))) (wrap64 (x6_1 + 1)) a1_0 a1_1 a1_2 a1_3) else (if t168 = 1 then (shuttleref12_Weight.l0 k1 l0 (wrap64 (x5_1 + (wrap64 ((wrap64 (rd l0 x6_1)) * a1_1)))) (wrap64 (x6_1 + 1)) a1_0 a1_1 a1_2 a1_3) else (if t168 = 2 then (shuttleref12_Weight.l0 k1 l0 (wrap64 (x5_1 + (wrap64 ((wrap64 (rd l0 x6_1)) * a1_2)))) (wrap64 (x6_1 + 1)) a1_0 a1_1 a1_2 a1_3) else (if t168 = 3 then (shuttleref12_Weight.l0 k1 l0 (wrap64 (x5_1 + (wrap64 ((wrap64 (rd l0 x6_1)) * a1_3)))) (wrap64 (x6_1 + 1)) a1_0 a1_1 a1_2 a1_3) else (none))))) = some r := H
          have A6 := Aside0.mk A60
          clear A60
          by_cases c7 : t168 = 0
          · rw [if_pos c7] at H
            subst c7
            have H' := Aside0.mk H
            clear H
            have p167 : 0 ≤ (x6_1 : Int) := of_decide_eq_true (by first | (with_reducible assumption) | assumption)
            have q167 : x6_1 < (l0.length : Int) := of_decide_eq_true (by first | (with_reducible assumption) | assumption)
            obtain ⟨ad167, e167, hx167_0⟩ := Kd.at_int HR0.out x6_1 p167 q167
            cases e167
            replace hx167_0 := (HB.out.cell (World.block_lt_of_cell? w _ hx167_0)).trans hx167_0
            replace p167 := eq_true p167
            replace q167 := eq_true q167
            have hcz8_0 : wr.cell? ⟨gb166, 0, none⟩ = some (.int .i64 a1_0) := (blk_cell BK166.out 0).trans rfl
            have hcz8_1 : wr.cell? ⟨gb166, 1, none⟩ = some (.int .i64 a1_1) := (blk_cell BK166.out 1).trans rfl
            have hcz8_2 : wr.cell? ⟨gb166, 2, none⟩ = some (.int .i64 a1_2) := (blk_cell BK166.out 2).trans rfl
            have hcz8_3 : wr.cell? ⟨gb166, 3, none⟩ = some (.int .i64 a1_3) := (blk_cell BK166.out 3).trans rfl
            have hfz8_0 := blk_frozen BK166.out 0
            have hfz8_1 := blk_frozen BK166.out 1
            have hfz8_2 := blk_frozen BK166.out 2
            have hfz8_3 := blk_frozen BK166.out 3
            go_wp2_with (first | (go_at_call 30; (with_reducible refine (shuttleref10_Version.calls k1 (Int.tmod x6_1 4) (wrap64 (Int.tdiv x6_1 4)) 0 _ A6.out).mono ?_); rintro e w' ⟨rfl, ⟨nd, rfl⟩⟩; (try first | exact ⟨rfl, _, World.drewN_drewN _ _ _⟩ | exact ⟨rfl, _, Eq.trans (World.drewN_drewN _ _ _) (congrArg (World.drewN _) (Nat.add_assoc _ _ _))⟩)))
            repeat ((with_reducible refine gate_quiet ?_); go_quiet (first | (go_at_call 30; (with_reducible refine (shuttleref10_Version.calls k1 (Int.tmod x6_1 4) (wrap64 (Int.tdiv x6_1 4)) 0 _ A6.out).mono ?_); rintro e w' ⟨rfl, ⟨nd, rfl⟩⟩; (try first | exact ⟨rfl, _, World.drewN_drewN _ _ _⟩ | exact ⟨rfl, _, Eq.trans (World.drewN_drewN _ _ _) (congrArg (World.drewN _) (Nat.add_assoc _ _ _))⟩))); try go_wp2_with (first | (go_at_call 30; (with_reducible refine (shuttleref10_Version.calls k1 (Int.tmod x6_1 4) (wrap64 (Int.tdiv x6_1 4)) 0 _ A6.out).mono ?_); rintro e w' ⟨rfl, ⟨nd, rfl⟩⟩; (try first | exact ⟨rfl, _, World.drewN_drewN _ _ _⟩ | exact ⟨rfl, _, Eq.trans (World.drewN_drewN _ _ _) (congrArg (World.drewN _) (Nat.add_assoc _ _ _))⟩))))
            go_roundg k1
            case measure => have := HK1.out; omega
            case rel => exact ⟨(wrap64 (x5_1 + (wrap64 ((wrap64 (rd l0 x6_1)) * a1_0)))), (wrap64 (x6_1 + 1)), (by first | rfl | (simp; done) | (simp [*]; done)), (by first | rfl | (simp; done) | (simp [*]; done)), H', ⟨by have := HK1.out; omega⟩, ⟨by (with_reducible repeat (first | refine blk_drewN ?_ _ | refine blk_drew ?_ | refine blk_alloc ?_ _)); exact BK166.out⟩, ⟨by repeat (first | (with_reducible first | exact HB.out | apply below_alloc | apply pw_below_drewN | apply below_drew1 | refine below_set ?_ GE166.out) | exact HB.out)⟩⟩
          · rw [if_neg c7] at H
            clear c7
            by_cases c9 : t168 = 1
            · rw [if_pos c9] at H
              subst c9
              have H' := Aside0.mk H
              clear H
              have p167 : 0 ≤ (x6_1 : Int) := of_decide_eq_true (by first | (with_reducible assumption) | assumption)
              have q167 : x6_1 < (l0.length : Int) := of_decide_eq_true (by first | (with_reducible assumption) | assumption)
              obtain ⟨ad167, e167, hx167_0⟩ := Kd.at_int HR0.out x6_1 p167 q167
              cases e167
              replace hx167_0 := (HB.out.cell (World.block_lt_of_cell? w _ hx167_0)).trans hx167_0
              replace p167 := eq_true p167
              replace q167 := eq_true q167
              have hcz10_0 : wr.cell? ⟨gb166, 0, none⟩ = some (.int .i64 a1_0) := (blk_cell BK166.out 0).trans rfl
              have hcz10_1 : wr.cell? ⟨gb166, 1, none⟩ = some (.int .i64 a1_1) := (blk_cell BK166.out 1).trans rfl
              have hcz10_2 : wr.cell? ⟨gb166, 2, none⟩ = some (.int .i64 a1_2) := (blk_cell BK166.out 2).trans rfl
              have hcz10_3 : wr.cell? ⟨gb166, 3, none⟩ = some (.int .i64 a1_3) := (blk_cell BK166.out 3).trans rfl
              have hfz10_0 := blk_frozen BK166.out 0
              have hfz10_1 := blk_frozen BK166.out 1
              have hfz10_2 := blk_frozen BK166.out 2
              have hfz10_3 := blk_frozen BK166.out 3
              go_wp2_with (first | (go_at_call 30; (with_reducible refine (shuttleref10_Version.calls k1 (Int.tmod x6_1 4) (wrap64 (Int.tdiv x6_1 4)) 1 _ A6.out).mono ?_); rintro e w' ⟨rfl, ⟨nd, rfl⟩⟩; (try first | exact ⟨rfl, _, World.drewN_drewN _ _ _⟩ | exact ⟨rfl, _, Eq.trans (World.drewN_drewN _ _ _) (congrArg (World.drewN _) (Nat.add_assoc _ _ _))⟩)))
              repeat ((with_reducible refine gate_quiet ?_); go_quiet (first | (go_at_call 30; (with_reducible refine (shuttleref10_Version.calls k1 (Int.tmod x6_1 4) (wrap64 (Int.tdiv x6_1 4)) 1 _ A6.out).mono ?_); rintro e w' ⟨rfl, ⟨nd, rfl⟩⟩; (try first | exact ⟨rfl, _, World.drewN_drewN _ _ _⟩ | exact ⟨rfl, _, Eq.trans (World.drewN_drewN _ _ _) (congrArg (World.drewN _) (Nat.add_assoc _ _ _))⟩))); try go_wp2_with (first | (go_at_call 30; (with_reducible refine (shuttleref10_Version.calls k1 (Int.tmod x6_1 4) (wrap64 (Int.tdiv x6_1 4)) 1 _ A6.out).mono ?_); rintro e w' ⟨rfl, ⟨nd, rfl⟩⟩; (try first | exact ⟨rfl, _, World.drewN_drewN _ _ _⟩ | exact ⟨rfl, _, Eq.trans (World.drewN_drewN _ _ _) (congrArg (World.drewN _) (Nat.add_assoc _ _ _))⟩))))
              go_roundg k1
              case measure => have := HK1.out; omega
              case rel => exact ⟨(wrap64 (x5_1 + (wrap64 ((wrap64 (rd l0 x6_1)) * a1_1)))), (wrap64 (x6_1 + 1)), (by first | rfl | (simp; done) | (simp [*]; done)), (by first | rfl | (simp; done) | (simp [*]; done)), H', ⟨by have := HK1.out; omega⟩, ⟨by (with_reducible repeat (first | refine blk_drewN ?_ _ | refine blk_drew ?_ | refine blk_alloc ?_ _)); exact BK166.out⟩, ⟨by repeat (first | (with_reducible first | exact HB.out | apply below_alloc | apply pw_below_drewN | apply below_drew1 | refine below_set ?_ GE166.out) | exact HB.out)⟩⟩
            · rw [if_neg c9] at H
              clear c9
              by_cases c11 : t168 = 2
              · rw [if_pos c11] at H
                subst c11
                have H' := Aside0.mk H
                clear H
                have p167 : 0 ≤ (x6_1 : Int) := of_decide_eq_true (by first | (with_reducible assumption) | assumption)
                have q167 : x6_1 < (l0.length : Int) := of_decide_eq_true (by first | (with_reducible assumption) | assumption)
                obtain ⟨ad167, e167, hx167_0⟩ := Kd.at_int HR0.out x6_1 p167 q167
                cases e167
                replace hx167_0 := (HB.out.cell (World.block_lt_of_cell? w _ hx167_0)).trans hx167_0
                replace p167 := eq_true p167
                replace q167 := eq_true q167
                have hcz12_0 : wr.cell? ⟨gb166, 0, none⟩ = some (.int .i64 a1_0) := (blk_cell BK166.out 0).trans rfl
                have hcz12_1 : wr.cell? ⟨gb166, 1, none⟩ = some (.int .i64 a1_1) := (blk_cell BK166.out 1).trans rfl
                have hcz12_2 : wr.cell? ⟨gb166, 2, none⟩ = some (.int .i64 a1_2) := (blk_cell BK166.out 2).trans rfl
                have hcz12_3 : wr.cell? ⟨gb166, 3, none⟩ = some (.int .i64 a1_3) := (blk_cell BK166.out 3).trans rfl
                have hfz12_0 := blk_frozen BK166.out 0
                have hfz12_1 := blk_frozen BK166.out 1
                have hfz12_2 := blk_frozen BK166.out 2
                have hfz12_3 := blk_frozen BK166.out 3
                go_wp2_with (first | (go_at_call 30; (with_reducible refine (shuttleref10_Version.calls k1 (Int.tmod x6_1 4) (wrap64 (Int.tdiv x6_1 4)) 2 _ A6.out).mono ?_); rintro e w' ⟨rfl, ⟨nd, rfl⟩⟩; (try first | exact ⟨rfl, _, World.drewN_drewN _ _ _⟩ | exact ⟨rfl, _, Eq.trans (World.drewN_drewN _ _ _) (congrArg (World.drewN _) (Nat.add_assoc _ _ _))⟩)))
                repeat ((with_reducible refine gate_quiet ?_); go_quiet (first | (go_at_call 30; (with_reducible refine (shuttleref10_Version.calls k1 (Int.tmod x6_1 4) (wrap64 (Int.tdiv x6_1 4)) 2 _ A6.out).mono ?_); rintro e w' ⟨rfl, ⟨nd, rfl⟩⟩; (try first | exact ⟨rfl, _, World.drewN_drewN _ _ _⟩ | exact ⟨rfl, _, Eq.trans (World.drewN_drewN _ _ _) (congrArg (World.drewN _) (Nat.add_assoc _ _ _))⟩))); try go_wp2_with (first | (go_at_call 30; (with_reducible refine (shuttleref10_Version.calls k1 (Int.tmod x6_1 4) (wrap64 (Int.tdiv x6_1 4)) 2 _ A6.out).mono ?_); rintro e w' ⟨rfl, ⟨nd, rfl⟩⟩; (try first | exact ⟨rfl, _, World.drewN_drewN _ _ _⟩ | exact ⟨rfl, _, Eq.trans (World.drewN_drewN _ _ _) (congrArg (World.drewN _) (Nat.add_assoc _ _ _))⟩))))
                go_roundg k1
                case measure => have := HK1.out; omega
                case rel => exact ⟨(wrap64 (x5_1 + (wrap64 ((wrap64 (rd l0 x6_1)) * a1_2)))), (wrap64 (x6_1 + 1)), (by first | rfl | (simp; done) | (simp [*]; done)), (by first | rfl | (simp; done) | (simp [*]; done)), H', ⟨by have := HK1.out; omega⟩, ⟨by (with_reducible repeat (first | refine blk_drewN ?_ _ | refine blk_drew ?_ | refine blk_alloc ?_ _)); exact BK166.out⟩, ⟨by repeat (first | (with_reducible first | exact HB.out | apply below_alloc | apply pw_below_drewN | apply below_drew1 | refine below_set ?_ GE166.out) | exact HB.out)⟩⟩
              · rw [if_neg c11] at H
                clear c11
                by_cases c13 : t168 = 3
                · rw [if_pos c13] at H
                  subst c13
                  have H' := Aside0.mk H
                  clear H
                  have p167 : 0 ≤ (x6_1 : Int) := of_decide_eq_true (by first | (with_reducible assumption) | assumption)
                  have q167 : x6_1 < (l0.length : Int) := of_decide_eq_true (by first | (with_reducible assumption) | assumption)
                  obtain ⟨ad167, e167, hx167_0⟩ := Kd.at_int HR0.out x6_1 p167 q167
                  cases e167
                  replace hx167_0 := (HB.out.cell (World.block_lt_of_cell? w _ hx167_0)).trans hx167_0
                  replace p167 := eq_true p167
                  replace q167 := eq_true q167
                  have hcz14_0 : wr.cell? ⟨gb166, 0, none⟩ = some (.int .i64 a1_0) := (blk_cell BK166.out 0).trans rfl
                  have hcz14_1 : wr.cell? ⟨gb166, 1, none⟩ = some (.int .i64 a1_1) := (blk_cell BK166.out 1).trans rfl
                  have hcz14_2 : wr.cell? ⟨gb166, 2, none⟩ = some (.int .i64 a1_2) := (blk_cell BK166.out 2).trans rfl
                  have hcz14_3 : wr.cell? ⟨gb166, 3, none⟩ = some (.int .i64 a1_3) := (blk_cell BK166.out 3).trans rfl
                  have hfz14_0 := blk_frozen BK166.out 0
                  have hfz14_1 := blk_frozen BK166.out 1
                  have hfz14_2 := blk_frozen BK166.out 2
                  have hfz14_3 := blk_frozen BK166.out 3
                  go_wp2_with (first | (go_at_call 30; (with_reducible refine (shuttleref10_Version.calls k1 (Int.tmod x6_1 4) (wrap64 (Int.tdiv x6_1 4)) 3 _ A6.out).mono ?_); rintro e w' ⟨rfl, ⟨nd, rfl⟩⟩; (try first | exact ⟨rfl, _, World.drewN_drewN _ _ _⟩ | exact ⟨rfl, _, Eq.trans (World.drewN_drewN _ _ _) (congrArg (World.drewN _) (Nat.add_assoc _ _ _))⟩)))
                  repeat ((with_reducible refine gate_quiet ?_); go_quiet (first | (go_at_call 30; (with_reducible refine (shuttleref10_Version.calls k1 (Int.tmod x6_1 4) (wrap64 (Int.tdiv x6_1 4)) 3 _ A6.out).mono ?_); rintro e w' ⟨rfl, ⟨nd, rfl⟩⟩; (try first | exact ⟨rfl, _, World.drewN_drewN _ _ _⟩ | exact ⟨rfl, _, Eq.trans (World.drewN_drewN _ _ _) (congrArg (World.drewN _) (Nat.add_assoc _ _ _))⟩))); try go_wp2_with (first | (go_at_call 30; (with_reducible refine (shuttleref10_Version.calls k1 (Int.tmod x6_1 4) (wrap64 (Int.tdiv x6_1 4)) 3 _ A6.out).mono ?_); rintro e w' ⟨rfl, ⟨nd, rfl⟩⟩; (try first | exact ⟨rfl, _, World.drewN_drewN _ _ _⟩ | exact ⟨rfl, _, Eq.trans (World.drewN_drewN _ _ _) (congrArg (World.drewN _) (Nat.add_assoc _ _ _))⟩))))
                  go_roundg k1
                  case measure => have := HK1.out; omega
                  case rel => exact ⟨(wrap64 (x5_1 + (wrap64 ((wrap64 (rd l0 x6_1)) * a1_3)))), (wrap64 (x6_1 + 1)), (by first | rfl | (simp; done) | (simp [*]; done)), (by first | rfl | (simp; done) | (simp [*]; done)), H', ⟨by have := HK1.out; omega⟩, ⟨by (with_reducible repeat (first | refine blk_drewN ?_ _ | refine blk_drew ?_ | refine blk_alloc ?_ _)); exact BK166.out⟩, ⟨by repeat (first | (with_reducible first | exact HB.out | apply below_alloc | apply pw_below_drewN | apply below_drew1 | refine below_set ?_ GE166.out) | exact HB.out)⟩⟩
                · rw [if_neg c13] at H
                  clear c13
                  exact absurd H (by simp)
        · rw [if_neg c5] at H
          exact absurd H (by simp)
      · rw [if_neg c4] at H
        have c4b0 : decide (x6_1 < (l0.length : Int)) = false := decide_eq_false c4
        clear c4
        obtain rfl := Option.some.inj H
        go_wp2
        repeat ((with_reducible refine gate_quiet ?_); go_quiet (fail); try go_wp2)
        go_ret
        exact ⟨by first | rfl | (simp [errW_none, errW_some] <;> rfl) | (simp [*, errW_none, errW_some] <;> rfl), by repeat (first | (with_reducible first | exact HB.out | apply below_alloc | apply pw_below_drewN | apply below_drew1 | refine below_set ?_ GE166.out) | exact HB.out)⟩

end Go.Proofs.YtijpnlmejphfhaaDoor.P

-- YtijpnlmejphfhaaDoorPHWeight
namespace Go.Proofs.YtijpnlmejphfhaaDoor.P
open Go Go.Proofs Go.RowKit Go.Proofs.YtijpnlmejphfhaaDoorW.PrintWords Go.Proofs.YtijpnlmejphfhaaDoorW.PrintLast Go.Proofs.YtijpnlmejphfhaaDoorW.PrintMore
set_option linter.unusedVariables false
set_option linter.unusedSimpArgs false

def version4h (s t : Nat) : Bool := decide (shuttleref10_Version.f 9 (s : Int) (t : Int) = some ((ver s t : Nat) : Int))
theorem version_allh : (List.range 4).all (fun s => (List.range 100).all fun t => version4h s t) = true := by decide +kernel
theorem rversionh_f (s t : Nat) (hs : s < 4) (ht : t < 100) (k : Nat) (hk : 9 ≤ k) : shuttleref10_Version.f k (s : Int) (t : Int) = some ((ver s t : Nat) : Int) := by
  have h1 := List.all_eq_true.1 version_allh s (List.mem_range.2 hs)
  have h2 := of_decide_eq_true (List.all_eq_true.1 h1 t (List.mem_range.2 ht))
  exact upz_ (F := fun k => shuttleref10_Version.f k (s : Int) (t : Int)) (fun k => shuttleref10_Version.mono _ _ k) h2 hk
theorem bwh_ {x y z : Int} (hx : isb x) (hy : 0 ≤ y ∧ y ≤ 7) (hz : 0 ≤ z ∧ z ≤ 10000) : wrap64 (z + wrap64 (wrap64 x * y)) = z + x * y := by
  have e2 : wrap64 x = x := by rcases hx with e | e <;> rw [e] <;> exact wrap_small (by decide) (by decide)
  have e3 : wrap64 (x * y) = x * y := by rcases hx with e | e <;> rw [e] <;> exact wrap_small (by omega) (by omega)
  rw [e2, e3]
  rcases hx with e | e <;> rw [e] <;> exact wrap_small (by omega) (by omega)
theorem weight_l0 {a b c d : Int} (hW : ∀ v, v < 4 → 0 ≤ wOf a b c d v ∧ wOf a b c d v ≤ 7) {X : List Int} (hX : ∀ x ∈ X, isb x) (hl : X.length ≤ 360) (n : Nat) : ∀ k i : Nat, i + n = X.length → n + 10 < k →
    shuttleref12_Weight.l0 k X (wcode (wOf a b c d) X i) (i : Int) a b c d = some (wcode (wOf a b c d) X X.length) := by
  induction n with
  | zero =>
    intro k i hi hk
    obtain ⟨k, rfl⟩ := pred (show 0 < k by omega)
    obtain rfl : i = X.length := by omega
    rw [shuttleref12_Weight.l0.eq_2, if_neg (by omega)]
  | succ n ih =>
    intro k i hi hk
    obtain ⟨k, rfl⟩ := pred (show 0 < k by omega)
    have hn := ih k (i + 1) (by omega) (by omega)
    have hin := wcode_in hW hX i
    have tm : Int.tmod (i : Int) 4 = ((i % 4 : Nat) : Int) := by rw [Int.tmod_eq_emod_of_nonneg (by omega)]; omega
    have td : wrap64 (Int.tdiv (i : Int) 4) = ((i / 4 : Nat) : Int) := by
      rw [Int.tdiv_eq_ediv_of_nonneg (by omega)]
      have e : ((i / 4 : Nat) : Int) = (i : Int) / 4 := by omega
      rw [e]; exact wrap_in (by omega) (by omega)
    have hvl := ver_lt (i % 4) (i / 4)
    rw [shuttleref12_Weight.l0.eq_2, if_pos (by omega), if_pos (by omega), tm, td, rversionh_f (i % 4) (i / 4) (by omega) (by omega) k (by omega), Option.bind_some, rd_getD, wrap_succ i (by omega)]
    refine (wOf_at2 (ver (i % 4) (i / 4)) hvl (fun z => shuttleref12_Weight.l0 k X (wrap64 (wcode (wOf a b c d) X i + wrap64 (wrap64 (X.getD i 0) * z))) ((i + 1 : Nat) : Int) a b c d)).trans ?_
    show shuttleref12_Weight.l0 k X (wrap64 (wcode (wOf a b c d) X i + wrap64 (wrap64 (X.getD i 0) * wOf a b c d (ver (i % 4) (i / 4))))) ((i + 1 : Nat) : Int) a b c d = _
    rw [bwh_ (getD_isb hX i) (hW _ hvl) (by omega)]
    exact hn
theorem weight_f {a b c d : Int} (hW : ∀ v, v < 4 → 0 ≤ wOf a b c d v ∧ wOf a b c d v ≤ 7) {X : List Int} (hX : ∀ x ∈ X, isb x) (hl : X.length ≤ 360) :
    shuttleref12_Weight.f 1000 X a b c d = some (wcode (wOf a b c d) X X.length) :=
  weight_l0 hW hX hl X.length 1000 0 (by omega) (by omega)
end Go.Proofs.YtijpnlmejphfhaaDoor.P

-- YtijpnlmejphfhaaDoorPPFr
namespace Go.Proofs.YtijpnlmejphfhaaDoor.P
open Go Go.Proofs Go.RowKit Go.Proofs.YtijpnlmejphfhaaDoorW.PrintWords Go.Proofs.YtijpnlmejphfhaaDoorW.PrintLast Go.Proofs.YtijpnlmejphfhaaDoorW.PrintMore
set_option linter.unusedVariables false
set_option linter.unusedSimpArgs false

/-- But for block g and v's own row nothing has turned. -/
structure Fr (g : Nat) (v : Value) (w w' : World) : Prop where
  os : w'.os = w.os
  tape : w'.tape = w.tape
  output : w'.output = w.output
  size : w.heap.size ≤ w'.heap.size
  block : ∀ k, k < w.heap.size → k ≠ g → some k ≠ v.ownBlock → w'.heap[k]? = w.heap[k]?
theorem Fr.refl (g : Nat) (v : Value) (w : World) : Fr g v w w := ⟨rfl, rfl, rfl, Nat.le_refl _, fun _ _ _ _ => rfl⟩
/-- v' is v's row, or a newer one. -/
def Newer (w : World) (v v' : Value) : Prop := v'.ownBlock = v.ownBlock ∨ ∀ b, v'.ownBlock = some b → w.heap.size ≤ b
theorem Newer.refl (w : World) (v : Value) : Newer w v v := .inl rfl
theorem Newer.trans {w w1 : World} {v v1 v2 : Value} (h : Newer w v v1) (hs : w.heap.size ≤ w1.heap.size) (k : Newer w1 v1 v2) : Newer w v v2 := by
  rcases k with k | k
  · rcases h with h | h
    · exact .inl (k.trans h)
    · exact .inr fun b hb => h b (k ▸ hb)
  · exact .inr fun b hb => Nat.le_trans hs (k b hb)
theorem Fr.trans {g : Nat} {v v1 : Value} {w w1 w2 : World} (h : Fr g v w w1) (hn : Newer w v v1) (k : Fr g v1 w1 w2) : Fr g v w w2 :=
  ⟨k.os.trans h.os, k.tape.trans h.tape, k.output.trans h.output, Nat.le_trans h.size k.size, fun i hi hg hv => by
    rw [k.block i (Nat.lt_of_lt_of_le hi h.size) hg ?_, h.block i hi hg hv]
    rcases hn with hn | hn
    · rw [hn]; exact hv
    · intro e; have := hn i e.symm; omega⟩
theorem Fr.below {g : Nat} {v : Value} {w w' : World} (h : Fr g v w w') {B : Nat} (hB : B ≤ w.heap.size) (hg : B ≤ g) (hv : ∀ b, v.ownBlock = some b → B ≤ b) : Below B w w' :=
  ⟨h.os, h.tape, h.output, h.size, fun k hk => h.block k (by omega) (by omega) (fun e => by have := hv k e.symm; omega)⟩
theorem Fr.of_below {g : Nat} {v : Value} {w w' : World} (h : Below w.heap.size w w') : Fr g v w w' := ⟨h.os, h.tape, h.output, h.size, fun k hk _ _ => h.block k hk⟩
theorem Fr.set {g : Nat} {v : Value} {w : World} (i : Nat) (x : Value) : Fr g v w (w.setCell ⟨g, i, none⟩ x) :=
  ⟨rfl, rfl, rfl, by simp, fun k _ hg _ => Below.heap_setCell w ⟨g, i, none⟩ x k (by exact hg)⟩
theorem Fr.seq {g : Nat} {v : Value} {w w1 w2 : World} (h : Fr g v w w1) (k : Fr g v w1 w2) : Fr g v w w2 := h.trans (.inl rfl) k
theorem Newer.none (w : World) (v : Value) : Newer w v (.slice none 0 0) := .inr fun b hb => by simp [Value.ownBlock] at hb
/-- What lies apart from the state lies apart from it behind a call too. -/
theorem apart_newer {w : World} {g k : Nat} {v v' : Value} (hn : Newer w v v') (hk : k < w.heap.size) (ha : k ≠ g ∧ some k ≠ v.ownBlock) : k ≠ g ∧ some k ≠ v'.ownBlock :=
  ⟨ha.1, fun e => by
    rcases hn with hn | hn
    · exact ha.2 (e.trans hn)
    · have := hn k e.symm; omega⟩
theorem Kd.R_fr {α : Type} {d : Kd α} {e n₀ g : Nat} {w w' : World} {v v' u : Value} {xs : List α} (h : Kd.R d e w n₀ (fun k => k ≠ g ∧ some k ≠ v.ownBlock) u xs) (hf : Fr g v w w') (hn : Newer w v v') :
    Kd.R d e w' n₀ (fun k => k ≠ g ∧ some k ≠ v'.ownBlock) u xs := by
  have h1 := Kd.R_bound h
  have h2 := Kd.R_step (w1 := w') h1 (fun k ok hk => hf.block k hk ok.1.1 ok.1.2)
  exact Kd.R_mono h2 (fun k ok => apart_newer hn ok.2.2.1 ok.1)
theorem Kd.V_fr {α : Type} {d : Kd α} {e n₀ g : Nat} {w w' : World} {v v' u : Value} {xs : List α} (h : Kd.V d e w n₀ (fun k => k ≠ g ∧ some k ≠ v.ownBlock) u xs) (hf : Fr g v w w') (hn : Newer w v v') :
    Kd.V d e w' n₀ (fun k => k ≠ g ∧ some k ≠ v'.ownBlock) u xs := by
  have h1 := Kd.V_bound h
  have h2 := Kd.V_step (w1 := w') h1 (fun k ok hk => hf.block k hk ok.1.1 ok.1.2)
  exact Kd.V_mono h2 (fun k ok => apart_newer hn ok.2 ok.1)
end Go.Proofs.YtijpnlmejphfhaaDoor.P

-- YtijpnlmejphfhaaDoorPDHeap0
namespace Go.Proofs.YtijpnlmejphfhaaDoor.P
open Go Go.Proofs Go.RowKit Go.Proofs.YtijpnlmejphfhaaDoorW.PrintWords Go.Proofs.YtijpnlmejphfhaaDoorW.PrintLast Go.Proofs.YtijpnlmejphfhaaDoorW.PrintMore
set_option linter.unusedVariables false
set_option linter.unusedSimpArgs false

/-- A way: its state, its step (modulo four), how far. -/
abbrev Wy := Int × (Int × Int)
abbrev kW : Kd Wy := Kd.pair (Kd.int .i64) (Kd.pair (Kd.int .i64) (Kd.int .i64))
def wyC (x : Wy) : List Value := [.int .i64 x.1, .int .i64 x.2.1, .int .i64 x.2.2]
theorem wy_info : (Tryd.prog.info? 88).map (fun i => (i.zero, i.size, i.bytes)) = some (some (.agg #[.int .i64 0, .int .i64 0, .int .i64 0]), 3, 24) := by kernel_rfl
theorem wy_size : (Tryd.prog.info? 88).map (·.size) = some 3 := by kernel_rfl
theorem kW_K (w : World) (x : Wy) : kW.K w x (wyC x) := ⟨[.int .i64 x.1], [.int .i64 x.2.1, .int .i64 x.2.2], rfl, rfl, [.int .i64 x.2.1], [.int .i64 x.2.2], rfl, rfl, rfl⟩
theorem kW_M (w : World) (base : Nat) (ok : Nat → Prop) (x : Wy) : kW.M w base ok x (wyC x) := ⟨[.int .i64 x.1], [.int .i64 x.2.1, .int .i64 x.2.2], rfl, rfl, [.int .i64 x.2.1], [.int .i64 x.2.2], rfl, rfl, rfl⟩
theorem kW_of {w : World} {x : Wy} {cs : List Value} (h : kW.K w x cs) : cs = wyC x := by
  obtain ⟨c0, c1, rfl, h0, d0, d1, rfl, h1, h2⟩ := h
  have e0 : c0 = [.int .i64 x.1] := h0
  have e1 : d0 = [.int .i64 x.2.1] := h1
  have e2 : d1 = [.int .i64 x.2.2] := h2
  rw [e0, e1, e2]; rfl
/-- The search at block g: weights, the row of ways (from n₀ on), the map. -/
structure HS (w : World) (n₀ g : Nat) (q0 q1 q2 q3 : Int) (M v : Value) (L : List Wy) : Prop where
  blk : w.heap[g]? = some (.cells #[.int .i64 q0, .int .i64 q1, .int .i64 q2, .int .i64 q3, v, M] 72 (0, 0))
  row : Kd.R kW 88 w n₀ (fun _ => True) v L
  low : n₀ ≤ g
variable {w w' : World} {n₀ g : Nat} {q0 q1 q2 q3 : Int} {M v v' : Value} {L L' : List Wy}
theorem HS.lt (h : HS w n₀ g q0 q1 q2 q3 M v L) : g < w.heap.size := blk_lt h.blk
theorem HS.ne (h : HS w n₀ g q0 q1 q2 q3 M v L) : some g ≠ v.ownBlock := Kd.R_ne h.row h.blk (by decide)
theorem HS.own (h : HS w n₀ g q0 q1 q2 q3 M v L) : ∀ b, v.ownBlock = some b → n₀ ≤ b ∧ b < w.heap.size := by
  intro b hb
  obtain ⟨inner, ho⟩ := Kd.R_own h.row
  exact ⟨own_base ho b hb, own_lt ho b hb⟩
theorem HS.below (h : HS w n₀ g q0 q1 q2 q3 M v L) (hb : Below w.heap.size w w') : HS w' n₀ g q0 q1 q2 q3 M v L := ⟨(hb.block g h.lt).trans h.blk, Kd.R_below h.row hb, h.low⟩
theorem HS.rowed {w2 : World} (h : HS w n₀ g q0 q1 q2 q3 M v L) (hr : Kd.R kW 88 w2 n₀ (fun _ => True) v' L') (hg : w.grownBy w2 v.ownBlock) (hat : v'.ownBlock = v.ownBlock ∨ (∃ b, v'.ownBlock = some b ∧ w.heap.size ≤ b) ∨ v'.ownBlock = none) :
    HS (w2.setCell ⟨g, 4, none⟩ v') n₀ g q0 q1 q2 q3 M v' L' ∧ Fr g v w (w2.setCell ⟨g, 4, none⟩ v') ∧ Newer w v v' := by
  have hb2 : w2.heap[g]? = some (.cells #[.int .i64 q0, .int .i64 q1, .int .i64 q2, .int .i64 q3, v, M] 72 (0, 0)) := (hg.block g h.lt h.ne).trans h.blk
  refine ⟨⟨blk_put hb2 4 _ rfl, Kd.R_set hr hb2 (by decide) 4 _, h.low⟩, ⟨hg.os, hg.tape, hg.output, by simpa using hg.size, fun k hk hkg hkv => ?_⟩, ?_⟩
  · rw [Below.heap_setCell w2 ⟨g, 4, none⟩ v' k hkg]; exact hg.block k hk hkv
  · rcases hat with e | ⟨b, e, hb⟩ | e
    · exact .inl e
    · exact .inr fun b' hb' => by rw [e] at hb'; injection hb' with hb'; omega
    · exact .inr fun b' hb' => by rw [e] at hb'; cases hb'
theorem HS.slice (h : HS w n₀ g q0 q1 q2 q3 M v L) : ∃ A c, v = .slice A L.length c := Kd.R_slice h.row
theorem grown_below {w w' : World} (hb : Below w.heap.size w w') (row : Option Nat) : w.grownBy w' row := ⟨hb.os, hb.tape, hb.output, hb.size, fun k hk _ => hb.block k hk⟩
/-- A row that isn't empty lies in a block. -/
theorem ways_blk (h : Kd.R kW 88 w n₀ (fun _ => True) v L) (hl : 0 < L.length) : ∃ b c, v = .slice (some ⟨b, 0, none⟩) L.length c := by
  obtain ⟨_, inner, hown, hr⟩ := h
  rcases hown.2 with ⟨hv, hz⟩ | ⟨b, cap, cur, hv, _⟩
  · omega
  · exact ⟨b, cap, hv⟩
/-- A way's cells. -/
theorem ways_at {b c : Nat} {ok : Nat → Prop} (h : Kd.R kW 88 w n₀ ok (.slice (some ⟨b, 0, none⟩) L.length c) L) (i : Nat) (hi : i < L.length) (j : Nat) (hj : j < 3) : w.cell? ⟨b, i * 3 + j, none⟩ = (wyC L[i])[j]? := by
  obtain ⟨ad, e, hcell⟩ := (Kd.R_reads' h).2.2.2.2 (by omega)
  injection e with e
  subst e
  obtain ⟨cs, hcs, hK, hc⟩ := hcell i _ (List.getElem?_eq_getElem hi)
  have e2 := kW_of hK
  subst e2
  have hj3 : (wyC L[i])[j]? = some ((wyC L[i])[j]'(by simpa [wyC] using hj)) := List.getElem?_eq_getElem _
  have h4 := hc j _ hj3
  rw [hj3]
  rw [add_plain] at h4
  exact h4
set_option maxRecDepth 100000 in
set_option maxHeartbeats 4000000 in
theorem len_calls (A : Option Addr) (n c : Nat) (w : World) : Calls Tryd.prog 79 #[.slice A n c] w fun e w' => e = .returned (.int .i64 (n : Int)) ∧ w = w' := by
  go_enter Tryd.func79, Tryd.ntmps79
  go_wp2
  go_ret
  exact ⟨by simp, rfl⟩
/-- How far the i-th is. -/
def farOf (L : List Wy) (i : Nat) : Int := (L.getD i (0, 0, 0)).2.2
def less1.T : Bool × List (List Nat × List Nat) := (true, [([], []), ([], []), ([0, 1], [0, 1]), ([2], [2]), ([3], [3]), ([], []), ([], []), ([5, 6], [5, 6]), ([7], [7]), ([8], [8]), ([4, 9], [4, 9]), ([10, 0, 1, 2, 3, 4, 5, 6, 7, 8, 9, 10], [10])])
def less1.B : List Nat := [0, 0, 3, 7, 15, 0, 0, 96, 224, 480, 1023, 2047]
theorem less1.tab : rtab .any (opsOf Tryd.f80 1) = less1.T := by kernel_rfl
theorem less1.bits : waitsOk less1.T.2 less1.B = true := by kernel_rfl
def swap0.T : Bool × List (List Nat × List Nat) := (true, [([], []), ([], []), ([], []), ([], []), ([], []), ([], []), ([4, 5], [4, 5]), ([6], [6]), ([], []), ([], []), ([8, 9], [8, 9]), ([10], [10]), ([0, 1, 0, 1, 4, 5, 6, 7, 11], [0, 1]), ([12, 7, 0, 1, 4, 5, 6, 7, 11], [7, 12]), ([2, 3, 0, 1, 2, 3, 4, 5, 6, 7, 8, 9, 10, 11, 12, 13], [2, 3]), ([14, 11, 13, 0, 1, 2, 3, 4, 5, 6, 7, 8, 9, 10, 11, 12, 13], [11, 14])])
def swap0.B : List Nat := [0, 0, 0, 0, 0, 0, 48, 112, 0, 0, 768, 1792, 4083, 8179, 16383, 32767]
theorem swap0.tab : rtab .any (opsOf Tryd.f81 0) = swap0.T := by kernel_rfl
theorem swap0.bits : waitsOk swap0.T.2 swap0.B = true := by kernel_rfl
set_option maxRecDepth 100000 in
set_option maxHeartbeats 4000000 in
theorem less_calls {b c : Nat} {ok : Nat → Prop} (h : Kd.R kW 88 w n₀ ok (.slice (some ⟨b, 0, none⟩) L.length c) L) (i j : Nat) (hi : i < L.length) (hj : j < L.length) (hl : L.length ≤ 100000) :
    Calls Tryd.prog 80 #[.slice (some ⟨b, 0, none⟩) L.length c, .int .i64 (i : Int), .int .i64 (j : Int)] w fun e w' => e = .returned (.bool (decide (farOf L i < farOf L j))) ∧ Below w.heap.size w w' := by
  obtain ⟨x, hx⟩ : ∃ x, x = farOf L i := ⟨_, rfl⟩
  obtain ⟨y, hy⟩ : ∃ y, y = farOf L j := ⟨_, rfl⟩
  have hfi : farOf L i = L[i].2.2 := by unfold farOf; rw [List.getD_eq_getElem?_getD, List.getElem?_eq_getElem hi]; rfl
  have hfj : farOf L j = L[j].2.2 := by unfold farOf; rw [List.getD_eq_getElem?_getD, List.getElem?_eq_getElem hj]; rfl
  have hci := ways_at h i hi 2 (by decide)
  have hcj := ways_at h j hj 2 (by decide)
  have HS := Aside0.mk (show w.drew.cell? ⟨b, i * 3 + 2, none⟩ = some (.int .i64 x) ∧ w.drew.cell? ⟨b, j * 3 + 2, none⟩ = some (.int .i64 y) from
    ⟨by rw [hx, hfi]; exact hci, by rw [hy, hfj]; exact hcj⟩)
  obtain ⟨n, hn⟩ : ∃ n, n = L.length := ⟨_, rfl⟩
  rw [← hx, ← hy, ← hn]
  have hi2 : (i : Int) < (n : Int) := by omega
  have hj2 : (j : Int) < (n : Int) := by omega
  clear h hx hy hfi hfj hci hcj hn
  go_enter Tryd.func80, Tryd.ntmps80
  go_wp2
  refine start_ (n := 12) (S := (fun w' => w'.cell? ⟨b, i * 3 + 2, none⟩ = some (.int .i64 x) ∧ w'.cell? ⟨b, j * 3 + 2, none⟩ = some (.int .i64 y))) (ds := []) #[false, false, false, false, false, false, false, false, false, false, false, false] (by kernel_rfl) rfl rfl HS.out (fun hHeld => ?_)
  refine with_tabW less1.tab less1.bits (fun HT_ HW_ => ?_)
  refine pure_ (i := 0) (N := some 7) (v := ?_) (a' := ?_) #[true, false, false, false, false, false, false, false, false, false, false, false] rfl rfl (any_of HT_.out (by kernel_rfl)) (fun _ _ _ h => h) (Or.inl ⟨by rfl, ?_⟩) ?_ ?_
  rotate_left
  · intro w'
    go_simp
    with_reducible rfl
  rotate_left
  · simp only [Act.put, List.setIfInBounds_toArray, List.set_cons_zero, List.set_cons_succ, i64_w, i32_w]
    rfl
  refine pure_ (i := 1) (N := some 8) (v := ?_) (a' := ?_) #[true, true, false, false, false, false, false, false, false, false, false, false] rfl rfl (any_of HT_.out (by kernel_rfl)) (fun _ _ _ h => h) (Or.inl ⟨by rfl, ?_⟩) ?_ ?_
  rotate_left
  · intro w'
    go_simp
    with_reducible rfl
  rotate_left
  · simp only [Act.put, List.setIfInBounds_toArray, List.set_cons_zero, List.set_cons_succ, i64_w, i32_w]
    rfl
  refine pure_ (i := 2) (N := some 9) (v := ?_) (a' := ?_) #[true, true, true, false, false, false, false, false, false, false, false, false] rfl rfl (any_of HT_.out (by kernel_rfl)) (fun _ _ _ h => h) (Or.inl ⟨by rfl, ?_⟩) ?_ ?_
  rotate_left
  · intro w'
    go_simp
    with_reducible rfl
  rotate_left
  · simp only [Act.put, List.setIfInBounds_toArray, List.set_cons_zero, List.set_cons_succ, i64_w, i32_w]
    rfl
  refine pure_ (i := 3) (N := some 10) (v := ?_) (a' := ?_) #[true, true, true, true, false, false, false, false, false, false, false, false] rfl rfl (any_of HT_.out (by kernel_rfl)) (fun _ _ _ h => h) (Or.inl ⟨by rfl, ?_⟩) ?_ ?_
  rotate_left
  · intro w'
    go_simp
    with_reducible rfl
  rotate_left
  · simp only [Act.put, List.setIfInBounds_toArray, List.set_cons_zero, List.set_cons_succ, i64_w, i32_w]
    rfl
  refine take_ (i := 4) (N := some 11) (v := ?_) (a' := ?_) #[true, true, true, true, true, false, false, false, false, false, false, false] rfl rfl (take_ofW HT_.out HW_.out (by kernel_rfl)) (fun _ _ _ h => h) (Or.inl ⟨by rfl, ?_⟩) hHeld ?_ ?_
  rotate_left
  · rintro w' ⟨s0, s1⟩
    go_simp
    with_reducible rfl
  rotate_left
  · simp only [Act.put, List.setIfInBounds_toArray, List.set_cons_zero, List.set_cons_succ, i64_w, i32_w]
    rfl
  refine pure_ (i := 5) (N := some 12) (v := ?_) (a' := ?_) #[true, true, true, true, true, true, false, false, false, false, false, false] rfl rfl (any_of HT_.out (by kernel_rfl)) (fun _ _ _ h => h) (Or.inl ⟨by rfl, ?_⟩) ?_ ?_
  rotate_left
  · intro w'
    go_simp
    with_reducible rfl
  rotate_left
  · simp only [Act.put, List.setIfInBounds_toArray, List.set_cons_zero, List.set_cons_succ, i64_w, i32_w]
    rfl
  refine pure_ (i := 6) (N := some 13) (v := ?_) (a' := ?_) #[true, true, true, true, true, true, true, false, false, false, false, false] rfl rfl (any_of HT_.out (by kernel_rfl)) (fun _ _ _ h => h) (Or.inl ⟨by rfl, ?_⟩) ?_ ?_
  rotate_left
  · intro w'
    go_simp
    with_reducible rfl
  rotate_left
  · simp only [Act.put, List.setIfInBounds_toArray, List.set_cons_zero, List.set_cons_succ, i64_w, i32_w]
    rfl
  refine pure_ (i := 7) (N := some 14) (v := ?_) (a' := ?_) #[true, true, true, true, true, true, true, true, false, false, false, false] rfl rfl (any_of HT_.out (by kernel_rfl)) (fun _ _ _ h => h) (Or.inl ⟨by rfl, ?_⟩) ?_ ?_
  rotate_left
  · intro w'
    go_simp
    with_reducible rfl
  rotate_left
  · simp only [Act.put, List.setIfInBounds_toArray, List.set_cons_zero, List.set_cons_succ, i64_w, i32_w]
    rfl
  refine pure_ (i := 8) (N := some 15) (v := ?_) (a' := ?_) #[true, true, true, true, true, true, true, true, true, false, false, false] rfl rfl (any_of HT_.out (by kernel_rfl)) (fun _ _ _ h => h) (Or.inl ⟨by rfl, ?_⟩) ?_ ?_
  rotate_left
  · intro w'
    go_simp
    with_reducible rfl
  rotate_left
  · simp only [Act.put, List.setIfInBounds_toArray, List.set_cons_zero, List.set_cons_succ, i64_w, i32_w]
    rfl
  refine take_ (i := 9) (N := some 16) (v := ?_) (a' := ?_) #[true, true, true, true, true, true, true, true, true, true, false, false] rfl rfl (take_ofW HT_.out HW_.out (by kernel_rfl)) (fun _ _ _ h => h) (Or.inl ⟨by rfl, ?_⟩) hHeld ?_ ?_
  rotate_left
  · rintro w' ⟨s0, s1⟩
    go_simp
    with_reducible rfl
  rotate_left
  · simp only [Act.put, List.setIfInBounds_toArray, List.set_cons_zero, List.set_cons_succ, i64_w, i32_w]
    rfl
  refine pure_ (i := 10) (N := some 17) (v := ?_) (a' := ?_) #[true, true, true, true, true, true, true, true, true, true, true, false] rfl rfl (any_of HT_.out (by kernel_rfl)) (fun _ _ _ h => h) (Or.inl ⟨by rfl, ?_⟩) ?_ ?_
  rotate_left
  · intro w'
    go_simp
    with_reducible rfl
  rotate_left
  · simp only [Act.put, List.setIfInBounds_toArray, List.set_cons_zero, List.set_cons_succ, i64_w, i32_w]
    rfl
  refine pure_ (i := 11) (N := some 6) (v := ?_) (a' := ?_) #[true, true, true, true, true, true, true, true, true, true, true, true] rfl rfl (any_of HT_.out (by kernel_rfl)) (fun _ _ _ h => h) (Or.inl ⟨by rfl, ?_⟩) ?_ ?_
  rotate_left
  · intro w'
    go_simp
    with_reducible rfl
  rotate_left
  · simp only [Act.put, List.setIfInBounds_toArray, List.set_cons_zero, List.set_cons_succ, i64_w, i32_w]
    rfl
  refine done_ (done_of HT_.out (by kernel_rfl)) ?_
  go_wp2 
  go_ret
  exact ⟨by simp, below_drew1 (Below.refl _ _)⟩
theorem ways_there {b c : Nat} {ok : Nat → Prop} (h : Kd.R kW 88 w n₀ ok (.slice (some ⟨b, 0, none⟩) L.length c) L) (i : Nat) (hi : i < L.length) : w.there b (i * 3) 3 := by
  intro j hj
  refine ⟨?_, ?_⟩
  · rw [ways_at h i hi j hj]
    obtain rfl | rfl | rfl : j = 0 ∨ j = 1 ∨ j = 2 := by omega
    all_goals rfl
  · obtain ⟨_, inner, hown, hr⟩ := h
    rcases hown.2 with ⟨hv, _⟩ | ⟨b', cap, cur, hv, _, hh, _⟩
    · cases hv
    · injection hv with ha
      injection ha with ha
      injection ha with hb
      subst hb
      exact blk_frozen hh _
theorem ways_set {b c : Nat} (h : Kd.R kW 88 w n₀ (fun _ => True) (.slice (some ⟨b, 0, none⟩) L.length c) L) (i : Nat) (hi : i < L.length) (x : Wy) :
    Kd.R kW 88 (w.setCells b (i * 3) (wyC x)) n₀ (fun _ => True) (.slice (some ⟨b, 0, none⟩) L.length c) (L.set i x) ∧ w.grownBy (w.setCells b (i * 3) (wyC x)) (some b) := by
  have hs := Kd.R_seg (okp := fun _ => False) (c := wyC L[i]) (seg := wyC x) (j := 0) (x' := x) h (i : Int) (by omega) (by omega) rfl (fun j u hu => by
    have hj : j < 3 := (List.getElem?_eq_some_iff.1 hu).1
    have h2 := ways_at h i hi j hj
    rw [hu] at h2
    exact h2) (by show 0 + 3 ≤ 3; decide) (kW_M _ _ _ x) (fun k hk => hk.elim)
  exact hs
theorem wyC_one (x : Wy) : (wyC x).toArray.all (·.oneCell') = true := all_oneCell_toArray (fun v hv => by
  simp only [wyC, List.mem_cons, List.not_mem_nil, or_false] at hv
  rcases hv with rfl | rfl | rfl <;> rfl)
/-- Two ways swapped. -/
def swapL (L : List Wy) (i j : Nat) : List Wy := (L.set i (L.getD j (0, 0, 0))).set j (L.getD i (0, 0, 0))
theorem swapL_length (L : List Wy) (i j : Nat) : (swapL L i j).length = L.length := by simp [swapL]
theorem getD_at (L : List Wy) (i : Nat) (h : i < L.length) : L.getD i (0, 0, 0) = L[i] := by rw [List.getD_eq_getElem?_getD, List.getElem?_eq_getElem h]; rfl
set_option maxRecDepth 100000 in
set_option maxHeartbeats 4000000 in
theorem swap_calls {b c : Nat} (h : Kd.R kW 88 w n₀ (fun _ => True) (.slice (some ⟨b, 0, none⟩) L.length c) L) (i j : Nat) (hi : i < L.length) (hj : j < L.length) (hl : L.length ≤ 100000) :
    Calls Tryd.prog 81 #[.slice (some ⟨b, 0, none⟩) L.length c, .int .i64 (i : Int), .int .i64 (j : Int)] w fun e w' => e = .returned (.tuple #[]) ∧ Kd.R kW 88 w' n₀ (fun _ => True) (.slice (some ⟨b, 0, none⟩) L.length c) (swapL L i j) ∧ w.grownBy w' (some b) := by
  have hR := Kd.R_below h (below_drew1 (Below.refl w.heap.size w))
  obtain ⟨x, hx⟩ : ∃ x, x = L[i] := ⟨_, rfl⟩
  obtain ⟨y, hy⟩ : ∃ y, y = L[j] := ⟨_, rfl⟩
  have hci := fun q (hq : q < 3) => ways_at hR i hi q hq
  have hcj := fun q (hq : q < 3) => ways_at hR j hj q hq
  rw [← hx] at hci
  rw [← hy] at hcj
  have HS := Aside0.mk (show w.drew.cell? ⟨b, i * 3, none⟩ = some (.int .i64 x.1) ∧ w.drew.cell? ⟨b, i * 3 + 1, none⟩ = some (.int .i64 x.2.1) ∧ w.drew.cell? ⟨b, i * 3 + 2, none⟩ = some (.int .i64 x.2.2) ∧ w.drew.cell? ⟨b, j * 3, none⟩ = some (.int .i64 y.1) ∧ w.drew.cell? ⟨b, j * 3 + 1, none⟩ = some (.int .i64 y.2.1) ∧ w.drew.cell? ⟨b, j * 3 + 2, none⟩ = some (.int .i64 y.2.2) from
    ⟨hci 0 (by decide), hci 1 (by decide), hci 2 (by decide), hcj 0 (by decide), hcj 1 (by decide), hcj 2 (by decide)⟩)
  have hs1 := ways_set hR i hi y
  have hs2 := ways_set (L := L.set i y) (by rw [List.length_set]; exact hs1.1) j (by rw [List.length_set]; exact hj) x
  rw [List.length_set] at hs2
  have hsw : (L.set i y).set j x = swapL L i j := by unfold swapL; rw [getD_at L i hi, getD_at L j hj, hx, hy]
  rw [hsw] at hs2
  have HT1 := Aside0.mk (ways_there hR i hi)
  have HT2 := Aside0.mk (ways_there (L := L.set i y) (by rw [List.length_set]; exact hs1.1) j (by rw [List.length_set]; exact hj))
  have HF := Aside0.mk (And.intro hs2.1 (show w.grownBy ((w.drew.setCells b (i * 3) (wyC y)).setCells b (j * 3) (wyC x)) (some b) from World.grownBy.trans (World.grownBy.trans (grown_below (below_drew1 (Below.refl _ _)) _) hs1.2) hs2.2))
  obtain ⟨n, hn⟩ : ∃ n, n = L.length := ⟨_, rfl⟩
  rw [← hn]
  rw [← hn] at HF
  have hi2 : (i : Int) < (n : Int) := by omega
  have hj2 : (j : Int) < (n : Int) := by omega
  obtain ⟨x0, x1, x2⟩ := x
  obtain ⟨y0, y1, y2⟩ := y
  clear h hR hx hy hci hcj hs1 hs2 hsw hn
  go_enter Tryd.func81, Tryd.ntmps81
  go_wp2
  refine start_ (n := 16) (S := (fun w' => w'.cell? ⟨b, i * 3, none⟩ = some (.int .i64 x0) ∧ w'.cell? ⟨b, i * 3 + 1, none⟩ = some (.int .i64 x1) ∧ w'.cell? ⟨b, i * 3 + 2, none⟩ = some (.int .i64 x2) ∧ w'.cell? ⟨b, j * 3, none⟩ = some (.int .i64 y0) ∧ w'.cell? ⟨b, j * 3 + 1, none⟩ = some (.int .i64 y1) ∧ w'.cell? ⟨b, j * 3 + 2, none⟩ = some (.int .i64 y2))) (ds := [13, 15]) #[false, false, false, false, false, false, false, false, false, false, false, false, false, false, false, false] (by kernel_rfl) rfl rfl HS.out (fun hHeld => ?_)
  refine with_tabW swap0.tab swap0.bits (fun HT_ HW_ => ?_)
  refine pure_ (i := 0) (N := some 6) (v := ?_) (a' := ?_) #[true, false, false, false, false, false, false, false, false, false, false, false, false, false, false, false] rfl rfl (any_of HT_.out (by kernel_rfl)) (fun _ _ _ h => h) (Or.inl ⟨by rfl, ?_⟩) ?_ ?_
  rotate_left
  · intro w'
    go_simp
    with_reducible rfl
  rotate_left
  · simp only [Act.put, List.setIfInBounds_toArray, List.set_cons_zero, List.set_cons_succ, i64_w, i32_w]
    rfl
  refine pure_ (i := 1) (N := some 7) (v := ?_) (a' := ?_) #[true, true, false, false, false, false, false, false, false, false, false, false, false, false, false, false] rfl rfl (any_of HT_.out (by kernel_rfl)) (fun _ _ _ h => h) (Or.inl ⟨by rfl, ?_⟩) ?_ ?_
  rotate_left
  · intro w'
    go_simp
    with_reducible rfl
  rotate_left
  · simp only [Act.put, List.setIfInBounds_toArray, List.set_cons_zero, List.set_cons_succ, i64_w, i32_w]
    rfl
  refine pure_ (i := 2) (N := some 8) (v := ?_) (a' := ?_) #[true, true, true, false, false, false, false, false, false, false, false, false, false, false, false, false] rfl rfl (any_of HT_.out (by kernel_rfl)) (fun _ _ _ h => h) (Or.inl ⟨by rfl, ?_⟩) ?_ ?_
  rotate_left
  · intro w'
    go_simp
    with_reducible rfl
  rotate_left
  · simp only [Act.put, List.setIfInBounds_toArray, List.set_cons_zero, List.set_cons_succ, i64_w, i32_w]
    rfl
  refine pure_ (i := 3) (N := some 9) (v := ?_) (a' := ?_) #[true, true, true, true, false, false, false, false, false, false, false, false, false, false, false, false] rfl rfl (any_of HT_.out (by kernel_rfl)) (fun _ _ _ h => h) (Or.inl ⟨by rfl, ?_⟩) ?_ ?_
  rotate_left
  · intro w'
    go_simp
    with_reducible rfl
  rotate_left
  · simp only [Act.put, List.setIfInBounds_toArray, List.set_cons_zero, List.set_cons_succ, i64_w, i32_w]
    rfl
  refine pure_ (i := 4) (N := some 10) (v := ?_) (a' := ?_) #[true, true, true, true, true, false, false, false, false, false, false, false, false, false, false, false] rfl rfl (any_of HT_.out (by kernel_rfl)) (fun _ _ _ h => h) (Or.inl ⟨by rfl, ?_⟩) ?_ ?_
  rotate_left
  · intro w'
    go_simp
    with_reducible rfl
  rotate_left
  · simp only [Act.put, List.setIfInBounds_toArray, List.set_cons_zero, List.set_cons_succ, i64_w, i32_w]
    rfl
  refine pure_ (i := 5) (N := some 11) (v := ?_) (a' := ?_) #[true, true, true, true, true, true, false, false, false, false, false, false, false, false, false, false] rfl rfl (any_of HT_.out (by kernel_rfl)) (fun _ _ _ h => h) (Or.inl ⟨by rfl, ?_⟩) ?_ ?_
  rotate_left
  · intro w'
    go_simp
    with_reducible rfl
  rotate_left
  · simp only [Act.put, List.setIfInBounds_toArray, List.set_cons_zero, List.set_cons_succ, i64_w, i32_w]
    rfl
  refine pure_ (i := 6) (N := some 12) (v := ?_) (a' := ?_) #[true, true, true, true, true, true, true, false, false, false, false, false, false, false, false, false] rfl rfl (any_of HT_.out (by kernel_rfl)) (fun _ _ _ h => h) (Or.inl ⟨by rfl, ?_⟩) ?_ ?_
  rotate_left
  · intro w'
    go_simp
    with_reducible rfl
  rotate_left
  · simp only [Act.put, List.setIfInBounds_toArray, List.set_cons_zero, List.set_cons_succ, i64_w, i32_w]
    rfl
  refine take_ (i := 7) (N := some 13) (v := ?_) (a' := ?_) #[true, true, true, true, true, true, true, true, false, false, false, false, false, false, false, false] rfl rfl (take_ofW HT_.out HW_.out (by kernel_rfl)) (fun _ _ _ h => h) (Or.inl ⟨by rfl, ?_⟩) hHeld ?_ ?_
  rotate_left
  · rintro w' ⟨s0, s1, s2, s3, s4, s5⟩
    go_simp
    with_reducible rfl
  rotate_left
  · simp only [Act.put, List.setIfInBounds_toArray, List.set_cons_zero, List.set_cons_succ, i64_w, i32_w]
    rfl
  refine pure_ (i := 8) (N := some 14) (v := ?_) (a' := ?_) #[true, true, true, true, true, true, true, true, true, false, false, false, false, false, false, false] rfl rfl (any_of HT_.out (by kernel_rfl)) (fun _ _ _ h => h) (Or.inl ⟨by rfl, ?_⟩) ?_ ?_
  rotate_left
  · intro w'
    go_simp
    with_reducible rfl
  rotate_left
  · simp only [Act.put, List.setIfInBounds_toArray, List.set_cons_zero, List.set_cons_succ, i64_w, i32_w]
    rfl
  refine pure_ (i := 9) (N := some 15) (v := ?_) (a' := ?_) #[true, true, true, true, true, true, true, true, true, true, false, false, false, false, false, false] rfl rfl (any_of HT_.out (by kernel_rfl)) (fun _ _ _ h => h) (Or.inl ⟨by rfl, ?_⟩) ?_ ?_
  rotate_left
  · intro w'
    go_simp
    with_reducible rfl
  rotate_left
  · simp only [Act.put, List.setIfInBounds_toArray, List.set_cons_zero, List.set_cons_succ, i64_w, i32_w]
    rfl
  refine pure_ (i := 10) (N := some 16) (v := ?_) (a' := ?_) #[true, true, true, true, true, true, true, true, true, true, true, false, false, false, false, false] rfl rfl (any_of HT_.out (by kernel_rfl)) (fun _ _ _ h => h) (Or.inl ⟨by rfl, ?_⟩) ?_ ?_
  rotate_left
  · intro w'
    go_simp
    with_reducible rfl
  rotate_left
  · simp only [Act.put, List.setIfInBounds_toArray, List.set_cons_zero, List.set_cons_succ, i64_w, i32_w]
    rfl
  refine take_ (i := 11) (N := some 17) (v := ?_) (a' := ?_) #[true, true, true, true, true, true, true, true, true, true, true, true, false, false, false, false] rfl rfl (take_ofW HT_.out HW_.out (by kernel_rfl)) (fun _ _ _ h => h) (Or.inl ⟨by rfl, ?_⟩) hHeld ?_ ?_
  rotate_left
  · rintro w' ⟨s0, s1, s2, s3, s4, s5⟩
    go_simp
    with_reducible rfl
  rotate_left
  · simp only [Act.put, List.setIfInBounds_toArray, List.set_cons_zero, List.set_cons_succ, i64_w, i32_w]
    rfl
  refine pure_ (i := 12) (N := some 18) (v := ?_) (a' := ?_) #[true, true, true, true, true, true, true, true, true, true, true, true, true, false, false, false] rfl rfl (any_of HT_.out (by kernel_rfl)) (fun _ _ _ h => h) (Or.inl ⟨by rfl, ?_⟩) ?_ ?_
  rotate_left
  · intro w'
    go_simp
    with_reducible rfl
  rotate_left
  · simp only [Act.put, List.setIfInBounds_toArray, List.set_cons_zero, List.set_cons_succ, i64_w, i32_w]
    rfl
  refine last_ (i := 13) (N := none) #[true, true, true, true, true, true, true, true, true, true, true, true, true, true, false, false] rfl rfl (one_of HT_.out (by kernel_rfl)) (by decide) (fun K hK => ?_)
  rw [if_pos (by rfl)]
  refine wp_store_mid 88 (.tmp 18) (.tmp 13) rfl b (i * 3) (wyC (y0, y1, y2)).toArray (by rfl) (by rfl) HT1.out (by kernel_rfl) (wyC_one _) ?_
  refine hK.out _ _ ?_
  clear hK K
  refine pure_ (i := 14) (N := some 19) (v := ?_) (a' := ?_) #[true, true, true, true, true, true, true, true, true, true, true, true, true, true, true, false] rfl rfl (any_of HT_.out (by kernel_rfl)) (fun _ _ _ h => h) (Or.inl ⟨by rfl, ?_⟩) ?_ ?_
  rotate_left
  · intro w'
    go_simp
    with_reducible rfl
  rotate_left
  · simp only [Act.put, List.setIfInBounds_toArray, List.set_cons_zero, List.set_cons_succ, i64_w, i32_w]
    rfl
  refine last_ (i := 15) (N := none) #[true, true, true, true, true, true, true, true, true, true, true, true, true, true, true, true] rfl rfl (one_of HT_.out (by kernel_rfl)) (by decide) (fun K hK => ?_)
  rw [if_pos (by rfl)]
  refine wp_store_mid 88 (.tmp 19) (.tmp 17) rfl b (j * 3) (wyC (x0, x1, x2)).toArray (by rfl) (by rfl) HT2.out (by kernel_rfl) (wyC_one _) ?_
  refine hK.out _ _ ?_
  clear hK K
  refine done_ (done_of HT_.out (by kernel_rfl)) ?_
  generalize ((w.drew.setCells b (i * 3) (wyC (y0, y1, y2))).setCells b (j * 3) (wyC (x0, x1, x2))) = w2 at HF
  go_wp2
  refine bodyPost_end (results_none rfl _ _ _) rfl ?_
  exact ⟨by simp, HF.out.1, HF.out.2⟩
end Go.Proofs.YtijpnlmejphfhaaDoor.P

-- YtijpnlmejphfhaaDoorPDHeap1
namespace Go.Proofs.YtijpnlmejphfhaaDoor.P
open Go Go.Proofs Go.RowKit Go.Proofs.YtijpnlmejphfhaaDoorW.PrintWords Go.Proofs.YtijpnlmejphfhaaDoorW.PrintLast Go.Proofs.YtijpnlmejphfhaaDoorW.PrintMore
set_option linter.unusedVariables false
set_option linter.unusedSimpArgs false

variable {w : World} {n₀ g : Nat} {q0 q1 q2 q3 : Int} {M v : Value} {L : List Wy}
theorem ta88 (a : Value) (w : World) : (Instr.typeAssert (.iface 88 a) 20 88 true).run Tryd.prog w = .ok (.tuple #[a, .bool true]) w := by kernel_rfl
theorem putNone (a : Act) (v : Value) : a.put none v = a := rfl
def push2.T : Bool × List (List Nat × List Nat) := (true, [([], []), ([], []), ([1], [1]), ([2], [2]), ([], []), ([4], [4]), ([3, 5], [3, 5]), ([0, 0, 1, 2, 3, 4, 5, 6], [0]), ([7, 6, 6, 0, 1, 2, 3, 4, 5, 6], [6, 7])])
def push2.B : List Nat := [0, 0, 2, 6, 0, 16, 62, 127, 255]
theorem push2.tab : rtab .any (opsOf Tryd.f83 2) = push2.T := by kernel_rfl
theorem push2.bits : waitsOk push2.T.2 push2.B = true := by kernel_rfl
def pop1.T : Bool × List (List Nat × List Nat) := (true, [([], []), ([0], [0]), ([1], [1]), ([], []), ([3], [3]), ([4], [4]), ([5], [5]), ([6], [6]), ([2, 7], [2, 7]), ([8], [8]), ([], []), ([10, 9, 0, 1, 2, 3, 4, 5, 6, 7, 8, 9, 10], [9, 10])])
def pop1.B : List Nat := [0, 1, 3, 0, 8, 24, 56, 120, 255, 511, 0, 2047]
theorem pop1.tab : rtab .any (opsOf Tryd.f82 1) = pop1.T := by kernel_rfl
theorem pop1.bits : waitsOk pop1.T.2 pop1.B = true := by kernel_rfl
def pop2.T : Bool × List (List Nat × List Nat) := (true, [([], []), ([], []), ([1], [1]), ([2], [2]), ([], []), ([4], [4]), ([5], [5]), ([6], [6]), ([7], [7]), ([3, 8], [3, 8]), ([0, 0, 1, 2, 3, 4, 5, 6, 7, 8, 9], [0]), ([10, 9, 0, 1, 2, 3, 4, 5, 6, 7, 8, 9], [9, 10])])
def pop2.B : List Nat := [0, 0, 2, 6, 0, 16, 48, 112, 240, 510, 1023, 2047]
theorem pop2.tab : rtab .any (opsOf Tryd.f82 2) = pop2.T := by kernel_rfl
theorem pop2.bits : waitsOk pop2.T.2 pop2.B = true := by kernel_rfl
set_option maxRecDepth 100000 in
set_option maxHeartbeats 4000000 in
theorem push_calls (h : HS w n₀ g q0 q1 q2 q3 M v L) (x0 x1 x2 : Int) (hl : L.length ≤ 2000) :
    Calls Tryd.prog 83 #[.pointer (some ⟨g, 4, none⟩), .iface 88 (.agg #[.int .i64 x0, .int .i64 x1, .int .i64 x2])] w fun e w' =>
      e = .returned (.tuple #[]) ∧ ∃ v', HS w' n₀ g q0 q1 q2 q3 M v' (L ++ [(x0, x1, x2)]) ∧ Fr g v w w' ∧ Newer w v v' := by
  obtain ⟨Af, cf, e⟩ := h.slice
  subst e
  have hta := ta88
  have HH := Aside0.mk h
  have HLT := Aside0.mk hl
  have hc4 : w.cell? ⟨g, 4, none⟩ = some (.slice Af L.length cf) := blk_cell h.blk 4
  obtain ⟨nL, hnL⟩ : ∃ nL, nL = L.length := ⟨_, rfl⟩
  rw [← hnL] at hc4
  have HNL := Aside0.mk hnL
  have HC4 := Aside0.mk hc4
  have HGL := Aside0.mk h.lt
  clear h hl hnL hc4
  go_enter Tryd.func83, Tryd.ntmps83
  go_wp2_with fail
  have hba := below_alloc (Below.refl w.heap.size w) (.cells #[.int .i64 x0, .int .i64 x1, .int .i64 x2] 88)
  have hbb := blk_new w (.cells #[.int .i64 x0, .int .i64 x1, .int .i64 x2] 88)
  obtain ⟨w1, hw1⟩ : ∃ w1, w1 = w.alloc (.cells #[.int .i64 x0, .int .i64 x1, .int .i64 x2] 88) := ⟨_, rfl⟩
  obtain ⟨Y, hY⟩ : ∃ Y, Y = w.heap.size := ⟨_, rfl⟩
  rw [← hw1] at hba hbb
  rw [← hY] at hbb
  rw [← hw1, ← hY]
  have hYe := hY
  have hbd : Below w.heap.size w w1.drew := hba.trans (⟨rfl, rfl, rfl, Nat.le_refl _, fun _ _ => rfl⟩ : Below w.heap.size w1 w1.drew)
  have HC := Aside0.mk (HH.out.below hbd)
  have HF := Aside0.mk hbd
  have hbd2 : w1.drew.heap[Y]? = some (.cells #[.int .i64 x0, .int .i64 x1, .int .i64 x2] 88 (0, 0)) := hbb
  have HS := Aside0.mk (show w1.drew.cell? ⟨g, 4, none⟩ = some (.slice Af nL cf) ∧ w1.drew.cell? ⟨Y, 0, none⟩ = some (.int .i64 x0) ∧ w1.drew.cell? ⟨Y, 1, none⟩ = some (.int .i64 x1) ∧ w1.drew.cell? ⟨Y, 2, none⟩ = some (.int .i64 x2) from
    ⟨by rw [HNL.out]; exact blk_cell HC.out.blk 4, blk_cell hbd2 0, blk_cell hbd2 1, blk_cell hbd2 2⟩)
  have HY := Aside0.mk hbd2
  have HYN := Aside0.mk (show some Y ≠ (Value.slice Af L.length cf).ownBlock from fun e => by have := (HH.out.own Y e.symm).2; omega)
  clear hba hbb hw1 hY hYe hbd hbd2 HH
  refine start_ (n := 9) (S := (fun w' => w'.cell? ⟨g, 4, none⟩ = some (.slice Af nL cf) ∧ w'.cell? ⟨Y, 0, none⟩ = some (.int .i64 x0) ∧ w'.cell? ⟨Y, 1, none⟩ = some (.int .i64 x1) ∧ w'.cell? ⟨Y, 2, none⟩ = some (.int .i64 x2))) (ds := [8]) #[false, false, false, false, false, false, false, false, false] (by kernel_rfl) rfl rfl HS.out (fun hHeld => ?_)
  refine with_tabW push2.tab push2.bits (fun HT_ HW_ => ?_)
  refine pure_ (i := 0) (N := some 12) (v := ?_) (a' := ?_) #[true, false, false, false, false, false, false, false, false] rfl rfl (any_of HT_.out (by kernel_rfl)) (fun _ _ _ h => h) (Or.inl ⟨by rfl, ?_⟩) ?_ ?_
  rotate_left
  · intro w'
    go_simp
    with_reducible rfl
  rotate_left
  · simp only [Act.put, List.setIfInBounds_toArray, List.set_cons_zero, List.set_cons_succ, i64_w, i32_w]
    rfl
  refine pure_ (i := 1) (N := some 13) (v := ?_) (a' := ?_) #[true, true, false, false, false, false, false, false, false] rfl rfl (any_of HT_.out (by kernel_rfl)) (fun _ _ _ h => h) (Or.inl ⟨by rfl, ?_⟩) ?_ ?_
  rotate_left
  · intro w'
    go_simp
    with_reducible rfl
  rotate_left
  · simp only [Act.put, List.setIfInBounds_toArray, List.set_cons_zero, List.set_cons_succ, i64_w, i32_w]
    rfl
  refine pure_ (i := 2) (N := some 14) (v := ?_) (a' := ?_) #[true, true, true, false, false, false, false, false, false] rfl rfl (any_of HT_.out (by kernel_rfl)) (fun _ _ _ h => h) (Or.inl ⟨by rfl, ?_⟩) ?_ ?_
  rotate_left
  · intro w'
    go_simp
    with_reducible rfl
  rotate_left
  · simp only [Act.put, List.setIfInBounds_toArray, List.set_cons_zero, List.set_cons_succ, i64_w, i32_w]
    rfl
  refine take_ (i := 3) (N := some 15) (v := ?_) (a' := ?_) #[true, true, true, true, false, false, false, false, false] rfl rfl (take_ofW HT_.out HW_.out (by kernel_rfl)) (fun _ _ _ h => h) (Or.inl ⟨by rfl, ?_⟩) hHeld ?_ ?_
  rotate_left
  · rintro w' ⟨s0, s1, s2, s3⟩
    go_simp
    with_reducible rfl
  rotate_left
  · simp only [Act.put, List.setIfInBounds_toArray, List.set_cons_zero, List.set_cons_succ, i64_w, i32_w]
    rfl
  refine take_ (i := 4) (N := some 16) (v := ?_) (a' := ?_) #[true, true, true, true, true, false, false, false, false] rfl rfl (take_ofW HT_.out HW_.out (by kernel_rfl)) (fun _ _ _ h => h) (Or.inl ⟨by rfl, ?_⟩) hHeld ?_ ?_
  rotate_left
  · rintro w' ⟨s0, s1, s2, s3⟩
    go_simp
    with_reducible rfl
  rotate_left
  · simp only [Act.put, List.setIfInBounds_toArray, List.set_cons_zero, List.set_cons_succ, i64_w, i32_w]
    rfl
  refine one_ (i := 5) (N := some 17) #[true, true, true, true, true, true, false, false, false] rfl rfl (one_of HT_.out (by kernel_rfl)) (by decide) (fun K hK => ?_)
  skip
  refine value_ (w1 := ?_) (v := ?_) (by rfl) rfl ?_ ?_
  rotate_left 2
  · go_simp
    constructor
    · rfl
    · rfl
  refine hK.out _ _ ⟨(blk_cell (blk_alloc HC.out.blk _) 4).trans (by rw [HNL.out]; rfl), blk_cell (blk_alloc HY.out _) 0, blk_cell (blk_alloc HY.out _) 1, blk_cell (blk_alloc HY.out _) 2⟩ (fun hHeld => ?_)
  clear hK K
  refine norm_ (a' := ?_) ?_ ?_
  rotate_left
  · show Act.put _ (some 17) _ = _
    simp only [Act.put, List.setIfInBounds_toArray, List.set_cons_zero, List.set_cons_succ, i64_w, i32_w]
    rfl
  refine one_ (i := 6) (N := some 18) #[true, true, true, true, true, true, true, false, false] rfl rfl (one_of HT_.out (by kernel_rfl)) (by decide) (fun K hK => ?_)
  refine Kd.R_append_step kW (w0 := w1.drew) n₀ (by rfl) (.tmp 15) (.tmp 17) 70 88 (.agg #[.int .i64 0, .int .i64 0, .int .i64 0]) 24 rfl Tryd.underlying70 wy_info rfl (by decide) (by omega) (.slice Af L.length cf) L (x0, x1, x2) (wyC (x0, x1, x2)) (fun _ => True) (fun _ => False) (by first | rfl | (go_simp; done) | (rw [← HNL.out]; first | rfl | (go_simp; done))) (by first | rfl | (go_simp; done) | (go_simp; rfl)) (kW_M _ _ _ _) (fun k hk => hk.elim) (fun _ _ => trivial) HC.out.row (Below.refl _ _) (by have := HC.out.low; have := HC.out.lt; omega) (by have := HLT.out; omega) ?_
  intro v29 w3 ho hb3 hg3 hat3
  obtain ⟨A29, c29, e29⟩ := Kd.R_slice ho
  obtain ⟨n29, hn29⟩ : ∃ n29, n29 = (L ++ [(x0, x1, x2)]).length := ⟨_, rfl⟩
  rw [← hn29] at e29
  subst e29
  have HA := Aside0.mk (HC.out.rowed ho hg3 (by rcases hat3 with q | q; exact .inl q; exact .inr (.inl q)))
  have HBG := Aside0.mk ((hg3.block g HC.out.lt HC.out.ne).trans HC.out.blk)
  have HYG := Aside0.mk ((hg3.block Y (blk_lt HY.out) HYN.out).trans HY.out)
  clear ho hb3 hg3 hat3 hn29
  refine hK.out _ _ ⟨(blk_cell HBG.out 4).trans (by rw [HNL.out]; rfl), blk_cell HYG.out 0, blk_cell HYG.out 1, blk_cell HYG.out 2⟩ (fun hHeld => ?_)
  clear hK K
  refine norm_ (a' := ?_) ?_ ?_
  rotate_left
  · show Act.put _ (some 18) _ = _
    simp only [Act.put, List.setIfInBounds_toArray, List.set_cons_zero, List.set_cons_succ, i64_w, i32_w]
    rfl
  refine pure_ (i := 7) (N := some 19) (v := ?_) (a' := ?_) #[true, true, true, true, true, true, true, true, false] rfl rfl (any_of HT_.out (by kernel_rfl)) (fun _ _ _ h => h) (Or.inl ⟨by rfl, ?_⟩) ?_ ?_
  rotate_left
  · intro w'
    go_simp
    with_reducible rfl
  rotate_left
  · simp only [Act.put, List.setIfInBounds_toArray, List.set_cons_zero, List.set_cons_succ, i64_w, i32_w]
    rfl
  refine last_ (i := 8) (N := none) #[true, true, true, true, true, true, true, true, true] rfl rfl (one_of HT_.out (by kernel_rfl)) (by decide) (fun K hK => ?_)
  have hcg : w3.cell? ⟨g, 4, none⟩ = some (.slice Af L.length cf) := blk_cell HBG.out 4
  have hfz := blk_frozen HBG.out 4
  refine skip_ (w1 := ?_) (by rfl) rfl ?_ ?_
  rotate_left 1
  · go_simp
    rfl
  refine hK.out _ _ ?_
  clear hK K
  refine done_ (done_of HT_.out (by kernel_rfl)) ?_
  clear hcg hfz
  obtain ⟨h1, h2, h3⟩ := HA.out
  generalize (w3.setCell ⟨g, 4, none⟩ (.slice A29 n29 c29)) = w4 at h1 h2 h3 ⊢
  have HE := Aside0.mk (And.intro h1 (And.intro h2 h3))
  clear h1 h2 h3
  go_wp2
  refine bodyPost_end (results_none rfl _ _ _) rfl ?_
  exact ⟨by simp, _, HE.out.1, (Fr.of_below HF.out).seq HE.out.2.1, (Newer.refl w _).trans HF.out.size HE.out.2.2⟩
def z88 : Array Value := #[.int .i64 0, .int .i64 0, .int .i64 0]
/-- A way put into a box of its own. -/
theorem wbox (w : World) (x : Wy) : (w.alloc (.cells z88 88)).drew.there w.heap.size 0 3 ∧ Below w.heap.size w ((w.alloc (.cells z88 88)).drew.setCells w.heap.size 0 (wyC x)) ∧ ∀ j, j < 3 → ((w.alloc (.cells z88 88)).drew.setCells w.heap.size 0 (wyC x)).cell? ⟨w.heap.size, j, none⟩ = (wyC x)[j]? := by
  have hb : (w.alloc (.cells z88 88)).drew.heap[w.heap.size]? = some (.cells z88 88 (0, 0)) := blk_new w (.cells z88 88)
  obtain ⟨C2, k1, k2, k3, k4⟩ := setCells_blk (wyC x) 0 _ z88 hb
  refine ⟨fun j hj => ⟨?_, blk_frozen hb _⟩, (below_drew1 (below_alloc (Below.refl _ _) _)).trans ((Put1.cells_ w.heap.size (wyC x) 0 _).below (Nat.le_refl _)), fun j hj => ?_⟩
  · rw [blk_cell hb, Array.getElem?_eq_getElem (show 0 + j < z88.size by rw [Nat.zero_add]; exact hj)]; rfl
  · rw [blk_cell k1]
    have hj3 : (wyC x)[j]? = some ((wyC x)[j]'(by simpa [wyC] using hj)) := List.getElem?_eq_getElem _
    have h := k4 j _ hj3 (by rw [Nat.zero_add]; exact hj)
    rw [Nat.zero_add] at h
    rw [hj3]; exact h
set_option maxRecDepth 100000 in
set_option maxHeartbeats 4000000 in
theorem pop_calls (x0 x1 x2 : Int) (h : HS w n₀ g q0 q1 q2 q3 M v (L ++ [(x0, x1, x2)])) (hl : L.length ≤ 2000) :
    Calls Tryd.prog 82 #[.pointer (some ⟨g, 4, none⟩)] w fun e w' =>
      e = .returned (.iface 88 (.agg #[.int .i64 x0, .int .i64 x1, .int .i64 x2])) ∧ ∃ v', HS w' n₀ g q0 q1 q2 q3 M v' L ∧ Fr g v w w' ∧ Newer w v v' := by
  obtain ⟨b, c, e⟩ := ways_blk h.row (by simp)
  subst e
  obtain ⟨m, hm⟩ : ∃ m, m = L.length := ⟨_, rfl⟩
  have hlen : (L ++ [(x0, x1, x2)]).length = m + 1 := by rw [hm]; simp
  have hcap : (L ++ [(x0, x1, x2)]).length ≤ c := (Kd.R_reads' h.row).2.1
  rw [hlen] at hcap
  have HH := Aside0.mk (h.below (below_drew1 (Below.refl _ _)))
  have HD := Aside0.mk (below_drew1 (Below.refl w.heap.size w))
  have H0 := Aside0.mk h
  have hml : m < (L ++ [(x0, x1, x2)]).length := by rw [hlen]; omega
  have hlast : (L ++ [(x0, x1, x2)])[m] = (x0, x1, x2) := by
    rw [List.getElem_append_right (by omega)]; simp [hm]
  have hat := fun q (hq : q < 3) => (ways_at HH.out.row m hml q hq).trans (congrArg (fun z => (wyC z)[q]?) hlast)
  obtain ⟨n, hn⟩ : ∃ n, n = m + 1 := ⟨_, rfl⟩
  have HNL := Aside0.mk (show n = (L ++ [(x0, x1, x2)]).length by rw [hlen, hn])
  have hsub : wrap64 ((n : Int) - 1) = (m : Int) := by rw [wrap_small (by omega) (by omega)]; omega
  have hwm : wrap64 (m : Int) = (m : Int) := wrap_small (by omega) (by omega)
  have hmn : (m : Int) < (n : Int) := by omega
  have hmc : (m : Int) ≤ (c : Int) := by omega
  have HM := Aside0.mk hm
  have HS := Aside0.mk (show w.drew.cell? ⟨g, 4, none⟩ = some (.slice (some ⟨b, 0, none⟩) n c) ∧ w.drew.cell? ⟨b, m * 3, none⟩ = some (.int .i64 x0) ∧ w.drew.cell? ⟨b, m * 3 + 1, none⟩ = some (.int .i64 x1) ∧ w.drew.cell? ⟨b, m * 3 + 2, none⟩ = some (.int .i64 x2) from
    ⟨by rw [HNL.out]; exact blk_cell HH.out.blk 4, hat 0 (by decide), hat 1 (by decide), hat 2 (by decide)⟩)
  have HGB := Aside0.mk (show g < w.heap.size ∧ b < w.heap.size from ⟨h.lt, (h.own b rfl).2⟩)
  have HK := Aside0.mk (show Below w.heap.size w (w.alloc (.cells z88 88)).drew from below_drew1 (below_alloc (Below.refl _ _) _))
  clear h hl hm hlen hcap hat hlast hn hml
  go_enter Tryd.func82, Tryd.ntmps82
  go_wp2_with fail
  refine start_ (n := 12) (S := (fun w' => w'.cell? ⟨g, 4, none⟩ = some (.slice (some ⟨b, 0, none⟩) n c) ∧ w'.cell? ⟨b, m * 3, none⟩ = some (.int .i64 x0) ∧ w'.cell? ⟨b, m * 3 + 1, none⟩ = some (.int .i64 x1) ∧ w'.cell? ⟨b, m * 3 + 2, none⟩ = some (.int .i64 x2))) (ds := [11]) #[false, false, false, false, false, false, false, false, false, false, false, false] (by kernel_rfl) rfl rfl HS.out (fun hHeld => ?_)
  refine with_tabW pop1.tab pop1.bits (fun HT_ HW_ => ?_)
  refine pure_ (i := 0) (N := some 4) (v := ?_) (a' := ?_) #[true, false, false, false, false, false, false, false, false, false, false, false] rfl rfl (any_of HT_.out (by kernel_rfl)) (fun _ _ _ h => h) (Or.inl ⟨by rfl, ?_⟩) ?_ ?_
  rotate_left
  · intro w'
    go_simp
    with_reducible rfl
  rotate_left
  · simp only [Act.put, List.setIfInBounds_toArray, List.set_cons_zero, List.set_cons_succ, i64_w, i32_w]
    rfl
  refine pure_ (i := 1) (N := some 5) (v := ?_) (a' := ?_) #[true, true, false, false, false, false, false, false, false, false, false, false] rfl rfl (any_of HT_.out (by kernel_rfl)) (fun _ _ _ h => h) (Or.inl ⟨by rfl, ?_⟩) ?_ ?_
  rotate_left
  · intro w'
    go_simp
    with_reducible rfl
  rotate_left
  · simp only [Act.put, List.setIfInBounds_toArray, List.set_cons_zero, List.set_cons_succ, i64_w, i32_w]
    rfl
  refine take_ (i := 2) (N := some 6) (v := ?_) (a' := ?_) #[true, true, true, false, false, false, false, false, false, false, false, false] rfl rfl (take_ofW HT_.out HW_.out (by kernel_rfl)) (fun _ _ _ h => h) (Or.inl ⟨by rfl, ?_⟩) hHeld ?_ ?_
  rotate_left
  · rintro w' ⟨s0, s1, s2, s3⟩
    go_simp
    with_reducible rfl
  rotate_left
  · simp only [Act.put, List.setIfInBounds_toArray, List.set_cons_zero, List.set_cons_succ, i64_w, i32_w]
    rfl
  refine pure_ (i := 3) (N := some 7) (v := ?_) (a' := ?_) #[true, true, true, true, false, false, false, false, false, false, false, false] rfl rfl (any_of HT_.out (by kernel_rfl)) (fun _ _ _ h => h) (Or.inl ⟨by rfl, ?_⟩) ?_ ?_
  rotate_left
  · intro w'
    go_simp
    with_reducible rfl
  rotate_left
  · simp only [Act.put, List.setIfInBounds_toArray, List.set_cons_zero, List.set_cons_succ, i64_w, i32_w]
    rfl
  refine pure_ (i := 4) (N := some 8) (v := ?_) (a' := ?_) #[true, true, true, true, true, false, false, false, false, false, false, false] rfl rfl (any_of HT_.out (by kernel_rfl)) (fun _ _ _ h => h) (Or.inl ⟨by rfl, ?_⟩) ?_ ?_
  rotate_left
  · intro w'
    go_simp
    with_reducible rfl
  rotate_left
  · simp only [Act.put, List.setIfInBounds_toArray, List.set_cons_zero, List.set_cons_succ, i64_w, i32_w]
    rfl
  refine take_ (i := 5) (N := some 9) (v := ?_) (a' := ?_) #[true, true, true, true, true, true, false, false, false, false, false, false] rfl rfl (take_ofW HT_.out HW_.out (by kernel_rfl)) (fun _ _ _ h => h) (Or.inl ⟨by rfl, ?_⟩) hHeld ?_ ?_
  rotate_left
  · rintro w' ⟨s0, s1, s2, s3⟩
    go_simp
    with_reducible rfl
  rotate_left
  · simp only [Act.put, List.setIfInBounds_toArray, List.set_cons_zero, List.set_cons_succ, i64_w, i32_w]
    rfl
  refine pure_ (i := 6) (N := some 10) (v := ?_) (a' := ?_) #[true, true, true, true, true, true, true, false, false, false, false, false] rfl rfl (any_of HT_.out (by kernel_rfl)) (fun _ _ _ h => h) (Or.inl ⟨by rfl, ?_⟩) ?_ ?_
  rotate_left
  · intro w'
    go_simp
    with_reducible rfl
  rotate_left
  · simp only [Act.put, List.setIfInBounds_toArray, List.set_cons_zero, List.set_cons_succ, i64_w, i32_w]
    rfl
  refine pure_ (i := 7) (N := some 11) (v := ?_) (a' := ?_) #[true, true, true, true, true, true, true, true, false, false, false, false] rfl rfl (any_of HT_.out (by kernel_rfl)) (fun _ _ _ h => h) (Or.inl ⟨by rfl, ?_⟩) ?_ ?_
  rotate_left
  · intro w'
    go_simp
    with_reducible rfl
  rotate_left
  · simp only [Act.put, List.setIfInBounds_toArray, List.set_cons_zero, List.set_cons_succ, i64_w, i32_w]
    rfl
  refine pure_ (i := 8) (N := some 12) (v := ?_) (a' := ?_) #[true, true, true, true, true, true, true, true, true, false, false, false] rfl rfl (any_of HT_.out (by kernel_rfl)) (fun _ _ _ h => h) (Or.inl ⟨by rfl, ?_⟩) ?_ ?_
  rotate_left
  · intro w'
    go_simp
    with_reducible rfl
  rotate_left
  · simp only [Act.put, List.setIfInBounds_toArray, List.set_cons_zero, List.set_cons_succ, i64_w, i32_w]
    rfl
  refine take_ (i := 9) (N := some 13) (v := ?_) (a' := ?_) #[true, true, true, true, true, true, true, true, true, true, false, false] rfl rfl (take_ofW HT_.out HW_.out (by kernel_rfl)) (fun _ _ _ h => h) (Or.inl ⟨by rfl, ?_⟩) hHeld ?_ ?_
  rotate_left
  · rintro w' ⟨s0, s1, s2, s3⟩
    go_simp
    with_reducible rfl
  rotate_left
  · simp only [Act.put, List.setIfInBounds_toArray, List.set_cons_zero, List.set_cons_succ, i64_w, i32_w]
    rfl
  refine one_ (i := 10) (N := some 3) #[true, true, true, true, true, true, true, true, true, true, true, false] rfl rfl (one_of HT_.out (by kernel_rfl)) (by decide) (fun K hK => ?_)
  skip
  refine value_ (w1 := ?_) (v := ?_) (by rfl) rfl ?_ ?_
  rotate_left 2
  · go_simp
    constructor
    · rfl
    · rfl
  refine hK.out _ _ ⟨(HK.out.cell (p := ⟨g, 4, none⟩) HGB.out.1).trans HS.out.1, (HK.out.cell (p := ⟨b, m * 3, none⟩) HGB.out.2).trans HS.out.2.1, (HK.out.cell (p := ⟨b, m * 3 + 1, none⟩) HGB.out.2).trans HS.out.2.2.1, (HK.out.cell (p := ⟨b, m * 3 + 2, none⟩) HGB.out.2).trans HS.out.2.2.2⟩ (fun hHeld => ?_)
  clear hK K
  refine norm_ (a' := ?_) ?_ ?_
  rotate_left
  · show Act.put _ (some 3) _ = _
    simp only [Act.put, List.setIfInBounds_toArray, List.set_cons_zero, List.set_cons_succ, i64_w, i32_w]
    rfl
  refine last_ (i := 11) (N := none) #[true, true, true, true, true, true, true, true, true, true, true, true] rfl rfl (one_of HT_.out (by kernel_rfl)) (by decide) (fun K hK => ?_)
  rw [if_pos (by rfl)]
  refine wp_store_mid 88 (.tmp 3) (.tmp 13) rfl w.heap.size 0 (wyC (x0, x1, x2)).toArray (by rfl) (by rfl) (wbox w (x0, x1, x2)).1 (by kernel_rfl) (wyC_one _) ?_
  refine hK.out _ _ ?_
  clear hK K
  refine done_ (done_of HT_.out (by kernel_rfl)) ?_
  obtain ⟨_, hb2, hy⟩ := wbox w (x0, x1, x2)
  have hy0 := hy 0 (by decide)
  have hy1 := hy 1 (by decide)
  have hy2 := hy 2 (by decide)
  obtain ⟨w2, hw2⟩ : ∃ w2, w2 = ((w.alloc (.cells z88 88)).drew.setCells w.heap.size 0 (wyC (x0, x1, x2))) := ⟨_, rfl⟩
  obtain ⟨B, hB⟩ : ∃ B, B = w.heap.size := ⟨_, rfl⟩
  rw [← hw2] at hb2 hy0 hy1 hy2
  rw [← hB] at hy0 hy1 hy2
  show Exit.then _ _ Exit.normal (Act.put _ none _) ((w.alloc (.cells z88 88)).drew.setCells w.heap.size 0 (wyC (x0, x1, x2)))
  rw [putNone]
  rw [← hw2, ← hB]
  have H2 := Aside0.mk (H0.out.below (hb2.trans (⟨rfl, rfl, rfl, Nat.le_refl _, fun _ _ => rfl⟩ : Below w.heap.size w2 w2.drew)))
  have HB2 := Aside0.mk (hb2.trans (⟨rfl, rfl, rfl, Nat.le_refl _, fun _ _ => rfl⟩ : Below w.heap.size w2 w2.drew))
  have HS2 := Aside0.mk (show w2.drew.cell? ⟨g, 4, none⟩ = some (.slice (some ⟨b, 0, none⟩) n c) ∧ w2.drew.cell? ⟨B, 0, none⟩ = some (.int .i64 x0) ∧ w2.drew.cell? ⟨B, 1, none⟩ = some (.int .i64 x1) ∧ w2.drew.cell? ⟨B, 2, none⟩ = some (.int .i64 x2) from
    ⟨by rw [HNL.out]; exact blk_cell H2.out.blk 4, hy0, hy1, hy2⟩)
  have HBe := Aside0.mk hB
  clear hb2 hy hy0 hy1 hy2 hw2 hB HS HK
  go_wp2_with fail
  refine start_ (n := 12) (S := (fun w' => w'.cell? ⟨g, 4, none⟩ = some (.slice (some ⟨b, 0, none⟩) n c) ∧ w'.cell? ⟨B, 0, none⟩ = some (.int .i64 x0) ∧ w'.cell? ⟨B, 1, none⟩ = some (.int .i64 x1) ∧ w'.cell? ⟨B, 2, none⟩ = some (.int .i64 x2))) (ds := [11]) #[false, false, false, false, false, false, false, false, false, false, false, false] (by kernel_rfl) rfl rfl HS2.out (fun hHeld => ?_)
  refine with_tabW pop2.tab pop2.bits (fun HT_ HW_ => ?_)
  refine pure_ (i := 0) (N := some 14) (v := ?_) (a' := ?_) #[true, false, false, false, false, false, false, false, false, false, false, false] rfl rfl (any_of HT_.out (by kernel_rfl)) (fun _ _ _ h => h) (Or.inl ⟨by rfl, ?_⟩) ?_ ?_
  rotate_left
  · intro w'
    go_simp
    with_reducible rfl
  rotate_left
  · simp only [Act.put, List.setIfInBounds_toArray, List.set_cons_zero, List.set_cons_succ, i64_w, i32_w]
    rfl
  refine pure_ (i := 1) (N := some 15) (v := ?_) (a' := ?_) #[true, true, false, false, false, false, false, false, false, false, false, false] rfl rfl (any_of HT_.out (by kernel_rfl)) (fun _ _ _ h => h) (Or.inl ⟨by rfl, ?_⟩) ?_ ?_
  rotate_left
  · intro w'
    go_simp
    with_reducible rfl
  rotate_left
  · simp only [Act.put, List.setIfInBounds_toArray, List.set_cons_zero, List.set_cons_succ, i64_w, i32_w]
    rfl
  refine pure_ (i := 2) (N := some 16) (v := ?_) (a' := ?_) #[true, true, true, false, false, false, false, false, false, false, false, false] rfl rfl (any_of HT_.out (by kernel_rfl)) (fun _ _ _ h => h) (Or.inl ⟨by rfl, ?_⟩) ?_ ?_
  rotate_left
  · intro w'
    go_simp
    with_reducible rfl
  rotate_left
  · simp only [Act.put, List.setIfInBounds_toArray, List.set_cons_zero, List.set_cons_succ, i64_w, i32_w]
    rfl
  refine take_ (i := 3) (N := some 17) (v := ?_) (a' := ?_) #[true, true, true, true, false, false, false, false, false, false, false, false] rfl rfl (take_ofW HT_.out HW_.out (by kernel_rfl)) (fun _ _ _ h => h) (Or.inl ⟨by rfl, ?_⟩) hHeld ?_ ?_
  rotate_left
  · rintro w' ⟨s0, s1, s2, s3⟩
    go_simp
    with_reducible rfl
  rotate_left
  · simp only [Act.put, List.setIfInBounds_toArray, List.set_cons_zero, List.set_cons_succ, i64_w, i32_w]
    rfl
  refine pure_ (i := 4) (N := some 18) (v := ?_) (a' := ?_) #[true, true, true, true, true, false, false, false, false, false, false, false] rfl rfl (any_of HT_.out (by kernel_rfl)) (fun _ _ _ h => h) (Or.inl ⟨by rfl, ?_⟩) ?_ ?_
  rotate_left
  · intro w'
    go_simp
    with_reducible rfl
  rotate_left
  · simp only [Act.put, List.setIfInBounds_toArray, List.set_cons_zero, List.set_cons_succ, i64_w, i32_w]
    rfl
  refine pure_ (i := 5) (N := some 19) (v := ?_) (a' := ?_) #[true, true, true, true, true, true, false, false, false, false, false, false] rfl rfl (any_of HT_.out (by kernel_rfl)) (fun _ _ _ h => h) (Or.inl ⟨by rfl, ?_⟩) ?_ ?_
  rotate_left
  · intro w'
    go_simp
    with_reducible rfl
  rotate_left
  · simp only [Act.put, List.setIfInBounds_toArray, List.set_cons_zero, List.set_cons_succ, i64_w, i32_w]
    rfl
  refine take_ (i := 6) (N := some 20) (v := ?_) (a' := ?_) #[true, true, true, true, true, true, true, false, false, false, false, false] rfl rfl (take_ofW HT_.out HW_.out (by kernel_rfl)) (fun _ _ _ h => h) (Or.inl ⟨by rfl, ?_⟩) hHeld ?_ ?_
  rotate_left
  · rintro w' ⟨s0, s1, s2, s3⟩
    go_simp
    with_reducible rfl
  rotate_left
  · simp only [Act.put, List.setIfInBounds_toArray, List.set_cons_zero, List.set_cons_succ, i64_w, i32_w]
    rfl
  refine pure_ (i := 7) (N := some 21) (v := ?_) (a' := ?_) #[true, true, true, true, true, true, true, true, false, false, false, false] rfl rfl (any_of HT_.out (by kernel_rfl)) (fun _ _ _ h => h) (Or.inl ⟨by rfl, ?_⟩) ?_ ?_
  rotate_left
  · intro w'
    go_simp
    with_reducible rfl
  rotate_left
  · simp only [Act.put, List.setIfInBounds_toArray, List.set_cons_zero, List.set_cons_succ, i64_w, i32_w]
    rfl
  refine pure_ (i := 8) (N := some 22) (v := ?_) (a' := ?_) #[true, true, true, true, true, true, true, true, true, false, false, false] rfl rfl (any_of HT_.out (by kernel_rfl)) (fun _ _ _ h => h) (Or.inl ⟨by rfl, ?_⟩) ?_ ?_
  rotate_left
  · intro w'
    go_simp
    with_reducible rfl
  rotate_left
  · simp only [Act.put, List.setIfInBounds_toArray, List.set_cons_zero, List.set_cons_succ, i64_w, i32_w]
    rfl
  refine pure_ (i := 9) (N := some 23) (v := ?_) (a' := ?_) #[true, true, true, true, true, true, true, true, true, true, false, false] rfl rfl (any_of HT_.out (by kernel_rfl)) (fun _ _ _ h => h) (Or.inl ⟨by rfl, ?_⟩) ?_ ?_
  rotate_left
  · intro w'
    go_simp
    with_reducible rfl
  rotate_left
  · simp only [Act.put, List.setIfInBounds_toArray, List.set_cons_zero, List.set_cons_succ, i64_w, i32_w]
    rfl
  refine pure_ (i := 10) (N := some 24) (v := ?_) (a' := ?_) #[true, true, true, true, true, true, true, true, true, true, true, false] rfl rfl (any_of HT_.out (by kernel_rfl)) (fun _ _ _ h => h) (Or.inl ⟨by rfl, ?_⟩) ?_ ?_
  rotate_left
  · intro w'
    go_simp
    with_reducible rfl
  rotate_left
  · simp only [Act.put, List.setIfInBounds_toArray, List.set_cons_zero, List.set_cons_succ, i64_w, i32_w]
    rfl
  refine last_ (i := 11) (N := none) #[true, true, true, true, true, true, true, true, true, true, true, true] rfl rfl (one_of HT_.out (by kernel_rfl)) (by decide) (fun K hK => ?_)
  have hcg := HS2.out.1
  have hfz := blk_frozen H2.out.blk 4
  refine skip_ (w1 := ?_) (by rfl) rfl ?_ ?_
  rotate_left 1
  · go_simp
    rfl
  refine hK.out _ _ ?_
  clear hK K
  refine done_ (done_of HT_.out (by kernel_rfl)) ?_
  clear hcg hfz
  have hrow := Kd.R_take H2.out.row (m := m) (by rw [← HNL.out]; omega)
  have htk : (L ++ [(x0, x1, x2)]).take m = L := by rw [HM.out]; simp
  rw [htk] at hrow
  have hrd := H2.out.rowed hrow (grown_below (Below.refl _ _) _) (.inl rfl)
  have hcB0 := (World.cell?_of_block (a := ⟨B, 0, none⟩) (Below.heap_setCell w2.drew ⟨g, 4, none⟩ (.slice (some ⟨b, 0, none⟩) m c) B (by show B ≠ g; have := HGB.out.1; have := HBe.out; omega))).trans HS2.out.2.1
  have hcB1 := (World.cell?_of_block (a := ⟨B, 1, none⟩) (Below.heap_setCell w2.drew ⟨g, 4, none⟩ (.slice (some ⟨b, 0, none⟩) m c) B (by show B ≠ g; have := HGB.out.1; have := HBe.out; omega))).trans HS2.out.2.2.1
  have hcB2 := (World.cell?_of_block (a := ⟨B, 2, none⟩) (Below.heap_setCell w2.drew ⟨g, 4, none⟩ (.slice (some ⟨b, 0, none⟩) m c) B (by show B ≠ g; have := HGB.out.1; have := HBe.out; omega))).trans HS2.out.2.2.2
  have e3 : w2.drew.setCell ⟨g, 4, none⟩ (.slice (some ⟨b, 0, none⟩) m c) = (w2.setCell ⟨g, 4, none⟩ (.slice (some ⟨b, 0, none⟩) m c)).drew := rfl
  rw [e3] at hrd hcB0 hcB1 hcB2
  have HRD := Aside0.mk hrd
  clear hrow htk hrd hHeld e3
  generalize (w2.setCell ⟨g, 4, none⟩ (.slice (some ⟨b, 0, none⟩) m c)).drew = w3 at HRD hcB0 hcB1 hcB2 ⊢
  go_wp2_with fail
  go_ret
  exact ⟨by simp, _, HRD.out.1, (Fr.of_below HB2.out).seq HRD.out.2.1, (Newer.refl w _).trans HB2.out.size HRD.out.2.2⟩
end Go.Proofs.YtijpnlmejphfhaaDoor.P

-- YtijpnlmejphfhaaDoorPDHeapP
namespace Go.Proofs.YtijpnlmejphfhaaDoor.P
open Go Go.Proofs Go.RowKit Go.Proofs.YtijpnlmejphfhaaDoorW.PrintWords Go.Proofs.YtijpnlmejphfhaaDoorW.PrintLast Go.Proofs.YtijpnlmejphfhaaDoorW.PrintMore
set_option linter.unusedVariables false
set_option linter.unusedSimpArgs false

theorem farOf_set (L : List Wy) (i k : Nat) (x : Wy) (hi : i < L.length) : farOf (L.set i x) k = if k = i then x.2.2 else farOf L k := by
  unfold farOf
  rw [List.getD_eq_getElem?_getD, List.getElem?_set]
  by_cases e : i = k
  · subst e; rw [if_pos rfl, if_pos hi, if_pos rfl]; rfl
  · rw [if_neg e, if_neg (fun h => e h.symm), List.getD_eq_getElem?_getD]
theorem swap_far (L : List Wy) (i j k : Nat) (hi : i < L.length) (hj : j < L.length) : farOf (swapL L i j) k = if k = j then farOf L i else if k = i then farOf L j else farOf L k := by
  unfold swapL
  rw [farOf_set _ _ _ _ (by rw [List.length_set]; exact hj), farOf_set _ _ _ _ hi]
  rfl
theorem swap_perm (L : List Wy) (i j : Nat) (hi : i < L.length) (hj : j < L.length) : (swapL L i j).Perm L := by
  have h := Array.swap_perm (xs := L.toArray) (i := i) (j := j) (by simpa using hi) (by simpa using hj)
  have e : (L.toArray.swap i j (by simpa using hi) (by simpa using hj)) = (swapL L i j).toArray := by
    unfold swapL
    rw [getD_at L i hi, getD_at L j hj]
    apply Array.ext
    · simp
    · intro k h1 h2
      simp [Array.getElem_swap, List.getElem_set]
  rw [e] at h
  exact Array.perm_iff_toList_perm.1 h
/-- The first n are a heap: no parent is further than its child. -/
def HeapN (L : List Wy) (n : Nat) : Prop := ∀ k, 0 < k → k < n → farOf L ((k - 1) / 2) ≤ farOf L k
/-- A heap but for place j, which may be nearer than its parent. -/
def UpI (L : List Wy) (j : Nat) : Prop := (∀ k, 0 < k → k < L.length → k ≠ j → farOf L ((k - 1) / 2) ≤ farOf L k) ∧ ∀ k, 0 < k → k < L.length → (k - 1) / 2 = j → 0 < j → farOf L ((j - 1) / 2) ≤ farOf L k
/-- A heap of n but for place i, which may be further than its children. -/
def DnI (L : List Wy) (n i : Nat) : Prop := (∀ k, 0 < k → k < n → (k - 1) / 2 ≠ i → farOf L ((k - 1) / 2) ≤ farOf L k) ∧ ∀ k, 0 < k → k < n → (k - 1) / 2 = i → 0 < i → farOf L ((i - 1) / 2) ≤ farOf L k
theorem up_stop {L : List Wy} {j : Nat} (h : UpI L j) (hs : j = 0 ∨ ¬ farOf L j < farOf L ((j - 1) / 2)) : HeapN L L.length := by
  intro k h0 hk
  by_cases e : k = j
  · subst e
    rcases hs with e | e
    · omega
    · omega
  · exact h.1 k h0 hk e
theorem up_step {L : List Wy} {j : Nat} (hj : j < L.length) (h0 : 0 < j) (h : UpI L j) (hl : farOf L j < farOf L ((j - 1) / 2)) : UpI (swapL L ((j - 1) / 2) j) ((j - 1) / 2) := by
  have hi : (j - 1) / 2 < L.length := by omega
  have hne : (j - 1) / 2 ≠ j := by omega
  have hf := fun k => swap_far L ((j - 1) / 2) j k hi hj
  refine ⟨fun k k0 kl kn => ?_, fun k k0 kl kp ip => ?_⟩
  · rw [swapL_length] at kl
    rw [hf k, hf ((k - 1) / 2)]
    by_cases e1 : k = j
    · subst e1
      rw [if_pos rfl, if_neg hne, if_pos rfl]; omega
    · rw [if_neg e1, if_neg kn]
      by_cases e2 : (k - 1) / 2 = j
      · rw [if_pos e2]; exact h.2 k k0 kl e2 h0
      · rw [if_neg e2]
        by_cases e3 : (k - 1) / 2 = (j - 1) / 2
        · rw [if_pos e3]
          have := h.1 k k0 kl e1
          rw [e3] at this
          omega
        · rw [if_neg e3]; exact h.1 k k0 kl e1
  · rw [swapL_length] at kl
    generalize hI : (j - 1) / 2 = i at *
    rw [hf k, hf ((i - 1) / 2)]
    have hp : (i - 1) / 2 ≠ j := by omega
    have hp2 : (i - 1) / 2 ≠ i := by omega
    rw [if_neg hp, if_neg hp2]
    have hpi : farOf L ((i - 1) / 2) ≤ farOf L i := h.1 i ip hi hne
    by_cases e1 : k = j
    · rw [if_pos e1]; exact hpi
    · rw [if_neg e1, if_neg (by omega)]
      have := h.1 k k0 kl e1
      rw [kp] at this
      omega
theorem push_start {L : List Wy} (x : Wy) (h : HeapN L L.length) : UpI (L ++ [x]) L.length := by
  have hf : ∀ k, k < L.length → farOf (L ++ [x]) k = farOf L k := fun k hk => by
    unfold farOf
    rw [List.getD_eq_getElem?_getD, List.getElem?_append_left hk, List.getD_eq_getElem?_getD]
  refine ⟨fun k k0 kl kn => ?_, fun k k0 kl kp ip => ?_⟩
  · rw [List.length_append, List.length_singleton] at kl
    rw [hf k (by omega), hf _ (by omega)]
    exact h k k0 (by omega)
  · rw [List.length_append, List.length_singleton] at kl
    omega
theorem dn_stop {L : List Wy} {n i : Nat} (h : DnI L n i) (hs : ∀ k, 0 < k → k < n → (k - 1) / 2 = i → farOf L i ≤ farOf L k) : HeapN L n := by
  intro k h0 hk
  by_cases e : (k - 1) / 2 = i
  · rw [e]; exact hs k h0 hk e
  · exact h.1 k h0 hk e
/-- The nearer child. -/
def chld (L : List Wy) (n i : Nat) : Nat := if 2 * i + 2 < n ∧ farOf L (2 * i + 2) < farOf L (2 * i + 1) then 2 * i + 2 else 2 * i + 1
theorem chld_le {L : List Wy} {n i k : Nat} (h0 : 0 < k) (hk : k < n) (hp : (k - 1) / 2 = i) : farOf L (chld L n i) ≤ farOf L k := by
  unfold chld
  have hc : k = 2 * i + 1 ∨ k = 2 * i + 2 := by omega
  split
  · rename_i e
    rcases hc with rfl | rfl
    · omega
    · omega
  · rename_i e
    rcases hc with rfl | rfl
    · omega
    · by_cases q : farOf L (2 * i + 2) < farOf L (2 * i + 1)
      · exact absurd ⟨hk, q⟩ e
      · omega
theorem dn_step {L : List Wy} {n i : Nat} (hn : n ≤ L.length) (h1 : 2 * i + 1 < n) (h : DnI L n i) (hl : farOf L (chld L n i) < farOf L i) : DnI (swapL L i (chld L n i)) n (chld L n i) := by
  have hcn : chld L n i < n ∧ (chld L n i - 1) / 2 = i ∧ 0 < chld L n i := by unfold chld; split <;> omega
  have hle := fun k (h0 : 0 < k) (hk : k < n) (hp : (k - 1) / 2 = i) => chld_le (L := L) h0 hk hp
  generalize chld L n i = j at *
  have hf := fun k => swap_far L i j k (by omega) (by omega)
  refine ⟨fun k k0 kl kn => ?_, fun k k0 kl kp jp => ?_⟩
  · rw [hf k, hf ((k - 1) / 2), if_neg kn]
    by_cases e1 : k = j
    · subst e1
      rw [if_pos rfl, if_pos hcn.2.1]; omega
    · rw [if_neg e1]
      by_cases e2 : (k - 1) / 2 = i
      · rw [if_pos e2, if_neg (by omega)]; exact hle k k0 kl e2
      · rw [if_neg e2]
        by_cases e3 : k = i
        · subst e3
          rw [if_pos rfl]
          exact h.2 j hcn.2.2 hcn.1 hcn.2.1 k0
        · rw [if_neg e3]; exact h.1 k k0 kl e2
  · rw [hf k, hf ((j - 1) / 2), hcn.2.1, if_neg (by omega), if_pos rfl, if_neg (by omega), if_neg (by omega)]
    have := h.1 k k0 kl (by omega)
    rw [kp] at this
    exact this
/-- A heap's root is the least. -/
theorem root_le {L : List Wy} {n : Nat} (h : HeapN L n) : ∀ k, k < n → farOf L 0 ≤ farOf L k
  | 0, _ => Int.le_refl _
  | k + 1, hk => by
    have h1 := h (k + 1) (by omega) hk
    have h2 := root_le h ((k + 1 - 1) / 2) (by omega)
    omega
/-- The root swapped with the last. -/
theorem pop_start {L : List Wy} (h : HeapN L L.length) (hl : 0 < L.length) : DnI (swapL L 0 (L.length - 1)) (L.length - 1) 0 := by
  have hf := fun k => swap_far L 0 (L.length - 1) k hl (by omega)
  refine ⟨fun k k0 kl kn => ?_, fun k k0 kl kp ip => by omega⟩
  rw [hf k, hf ((k - 1) / 2), if_neg (c := (k - 1) / 2 = L.length - 1) (by omega), if_neg (c := (k - 1) / 2 = 0) kn, if_neg (c := k = L.length - 1) (by omega), if_neg (c := k = 0) (by omega)]
  exact h k k0 (by omega)
end Go.Proofs.YtijpnlmejphfhaaDoor.P

-- YtijpnlmejphfhaaDoorPDHeap2
namespace Go.Proofs.YtijpnlmejphfhaaDoor.P
open Go Go.Proofs Go.RowKit Go.Proofs.YtijpnlmejphfhaaDoorW.PrintWords Go.Proofs.YtijpnlmejphfhaaDoorW.PrintLast Go.Proofs.YtijpnlmejphfhaaDoorW.PrintMore
set_option linter.unusedVariables false
set_option linter.unusedSimpArgs false

variable {w : World} {n₀ g : Nat} {q0 q1 q2 q3 : Int} {M v : Value} {L : List Wy}
theorem mPush (g : Nat) (w : World) : (method 235 91 (.pointer (some ⟨g, 4, none⟩)) "Push").run Tryd.prog w = .ok (83, .pointer (some ⟨g, 4, none⟩)) w := by kernel_rfl
theorem mPop (g : Nat) (w : World) : (method 235 91 (.pointer (some ⟨g, 4, none⟩)) "Pop").run Tryd.prog w = .ok (82, .pointer (some ⟨g, 4, none⟩)) w := by kernel_rfl
theorem eEnter (args : Array Value) (w : World) : (callFunc 83 args).run Tryd.prog w = .ok (.enter 83 args) w := by kernel_rfl
theorem nilchk (a : Addr) (n : String) (w : World) : (Builtin.ssaWrapNilChk_ #[91] 91 #[.pointer (some a), strVal "", strVal n]).run Tryd.prog w = .ok (.pointer (some a)) w := by kernel_rfl
theorem rcv (g : Nat) (w : World) (v : Value) (hc : w.cell? ⟨g, 4, none⟩ = some v) (n : Option String) : (receiverAt 91 (.val (.pointer (some ⟨g, 4, none⟩))) false n).run Tryd.prog w = .ok v w := by
  have hu : (underlying 91).run Tryd.prog w = .ok (.pointer 70) w := by kernel_rfl
  have hl : (loadVar 70 ⟨g, 4, none⟩).run Tryd.prog w = .ok v w := by go_simp
  unfold receiverAt
  simp only [Sem.run_bind, hu, Result.andThen_ok]
  cases n with
  | none => simp only [Place.get, Sem.run_bind, Sem.run_pure, Result.andThen_ok, asAddr, hl]
  | some n => simp only [Place.get, Sem.run_bind, Sem.run_pure, Result.andThen_ok, asAddr, hl, nilchk]
set_option maxRecDepth 100000 in
theorem mAny (name : String) (f : Nat) (g : Nat) (w : World) (v : Value) (hc : w.cell? ⟨g, 4, none⟩ = some v) (h : ((Tryd.prog.info? 91).bind fun I => (I.methods.find? (·.name == name)).map fun m => (m.path, m.func)) = some (#[], some (f, false))) :
    (method (Tryd.prog.types.size + 100) 91 (.pointer (some ⟨g, 4, none⟩)) name).run Tryd.prog w = .ok (f, v) w := by
  obtain ⟨I, h1, h⟩ := Option.bind_eq_some_iff.1 h
  obtain ⟨m, h2, h⟩ := Option.map_eq_some_iff.1 h
  injection h with h3 h4
  have hi : (typeInfo 91).run Tryd.prog w = .ok I w := by unfold typeInfo; simp [h1]
  have hp : m.path.toList = [] := by rw [h3]
  unfold method
  simp only [Sem.run_bind, hi, Result.andThen_ok, h2, hp, h4, follow, Sem.run_pure, rcv g w v hc]
theorem fuel_ : Tryd.prog.types.size + 100 = 235 := by kernel_rfl
theorem mLen (g : Nat) (w : World) (v : Value) (hc : w.cell? ⟨g, 4, none⟩ = some v) : (method 235 91 (.pointer (some ⟨g, 4, none⟩)) "Len").run Tryd.prog w = .ok (79, v) w :=
  fuel_ ▸ mAny "Len" 79 g w v hc (by kernel_rfl)
theorem mLess (g : Nat) (w : World) (v : Value) (hc : w.cell? ⟨g, 4, none⟩ = some v) : (method 235 91 (.pointer (some ⟨g, 4, none⟩)) "Less").run Tryd.prog w = .ok (80, v) w :=
  fuel_ ▸ mAny "Less" 80 g w v hc (by kernel_rfl)
theorem mSwap (g : Nat) (w : World) (v : Value) (hc : w.cell? ⟨g, 4, none⟩ = some v) : (method 235 91 (.pointer (some ⟨g, 4, none⟩)) "Swap").run Tryd.prog w = .ok (81, v) w :=
  fuel_ ▸ mAny "Swap" 81 g w v hc (by kernel_rfl)
theorem eLen (args : Array Value) (w : World) : (callFunc 79 args).run Tryd.prog w = .ok (.enter 79 args) w := by kernel_rfl
theorem eLess (args : Array Value) (w : World) : (callFunc 80 args).run Tryd.prog w = .ok (.enter 80 args) w := by kernel_rfl
theorem eSwap (args : Array Value) (w : World) : (callFunc 81 args).run Tryd.prog w = .ok (.enter 81 args) w := by kernel_rfl
theorem ePop (args : Array Value) (w : World) : (callFunc 82 args).run Tryd.prog w = .ok (.enter 82 args) w := by kernel_rfl

theorem HS.grown {b c : Nat} {L' : List Wy} {w' : World} (h : HS w n₀ g q0 q1 q2 q3 M (.slice (some ⟨b, 0, none⟩) L.length c) L) (hr : Kd.R kW 88 w' n₀ (fun _ => True) (.slice (some ⟨b, 0, none⟩) L.length c) L') (hg : w.grownBy w' (some b)) :
    HS w' n₀ g q0 q1 q2 q3 M (.slice (some ⟨b, 0, none⟩) L.length c) L' := ⟨(hg.block g h.lt h.ne).trans h.blk, hr, h.low⟩
theorem tdiv2 (j : Nat) (h : 0 < j) : Int.tdiv ((j : Int) - 1) 2 = (((j - 1) / 2 : Nat) : Int) := by rw [Int.tdiv_eq_ediv_of_nonneg (by omega)]; omega
theorem ediv2 (j : Nat) (h : 0 < j) : ((j : Int) - 1) / 2 = (((j - 1) / 2 : Nat) : Int) := by omega
set_option maxRecDepth 100000 in
set_option maxHeartbeats 4000000 in
theorem up_calls {b c : Nat} (h : HS w n₀ g q0 q1 q2 q3 M (.slice (some ⟨b, 0, none⟩) L.length c) L) (j0 : Nat) (hj : j0 < L.length) (hl : L.length ≤ 2000) (hU : UpI L j0) :
    Calls Tryd.prog 54 #[.iface 91 (.pointer (some ⟨g, 4, none⟩)), .int .i64 (j0 : Int)] w fun e w' =>
      e = .returned (.tuple #[]) ∧ ∃ L', L'.length = L.length ∧ HS w' n₀ g q0 q1 q2 q3 M (.slice (some ⟨b, 0, none⟩) L.length c) L' ∧ w.grownBy w' (some b) ∧ L'.Perm L ∧ HeapN L' L.length := by
  have mL := mLess g
  have eL := eLess
  have eS := eSwap
  have mS := mSwap g
  have HH := Aside0.mk h
  have HU := Aside0.mk hU
  obtain ⟨n, hn⟩ : ∃ n, n = L.length := ⟨_, rfl⟩
  have HN := Aside0.mk hn
  have hjn : j0 < n := by omega
  have hn2 : n ≤ 2000 := by omega
  rw [← hn]
  rw [← hn] at HH
  clear h hU hn hj hl
  go_enter Tryd.func54, Tryd.ntmps54
  go_wp2_with fail
  go_loopw [1] (fun v1 wr => ∃ (j : Nat) (L' : List Wy), v1 = .int .i64 (j : Int) ∧ j < n ∧ Aside0 (L'.length = n) ∧ Aside0 (HS wr n₀ g q0 q1 q2 q3 M (.slice (some ⟨b, 0, none⟩) n c) L') ∧ Aside0 (w.grownBy wr (some b)) ∧ Aside0 (L'.Perm L) ∧ Aside0 (UpI L' j)) (fun v1 _ => (intOf v1).toNat)
  case atStart => exact ⟨j0, L, rfl, hjn, ⟨HN.out.symm⟩, HH, ⟨grown_below (Below.refl _ _) _⟩, ⟨List.Perm.refl _⟩, HU⟩
  case round =>
    clear HH HU
    obtain ⟨j, L', rfl, hjn, HL, HH, HG, HP, HU⟩ := hrel
    have hc4 : wr.cell? ⟨g, 4, none⟩ = some (.slice (some ⟨b, 0, none⟩) n c) := blk_cell HH.out.blk 4
    by_cases hj0 : j = 0
    · subst hj0
      go_wp2_with fail
      refine bodyPost_end (results_none rfl _ _ _) rfl ?_
      exact ⟨by simp, L', HL.out, HH.out, HG.out, HP.out, by rw [← HL.out]; exact up_stop HU.out (.inl rfl)⟩
    · have hjp : 0 < j := by omega
      have hd1 := tdiv2 j hjp
      have hd2 := ediv2 j hjp
      obtain ⟨p, hp⟩ : ∃ p, p = (j - 1) / 2 := ⟨_, rfl⟩
      rw [← hp] at hd1 hd2
      have hpj : p < j := by omega
      have hpb : ((p : Int) == (j : Int)) = false := beq_eq_false_iff_ne.mpr (by omega)
      have HPE := Aside0.mk hp
      clear hp
      have hR : Kd.R kW 88 wr n₀ (fun _ => True) (.slice (some ⟨b, 0, none⟩) L'.length c) L' := by rw [HL.out]; exact HH.out.row
      have hls := less_calls hR j p (by rw [HL.out]; exact hjn) (by rw [HL.out]; omega) (by rw [HL.out]; omega)
      rw [HL.out] at hls
      by_cases hlt : farOf L' j < farOf L' p
      · rw [decide_eq_true hlt] at hls
        have HLS := Aside0.mk hls
        have HLT := Aside0.mk hlt
        clear hls hR hlt
        go_wp2_with (first | (go_at_call 80; refine Aside0.out ?_) | fail)
        refine Aside0.mk ?_
        refine HLS.out.mono ?_
        rintro e w1 ⟨rfl, hb1⟩
        have HH1 := Aside0.mk (HH.out.below hb1)
        have HG1 := Aside0.mk (HG.out.trans (grown_below hb1 _))
        clear hb1 HLS hc4
        have hc4 : w1.cell? ⟨g, 4, none⟩ = some (.slice (some ⟨b, 0, none⟩) n c) := blk_cell HH1.out.blk 4
        have hR1 : Kd.R kW 88 w1 n₀ (fun _ => True) (.slice (some ⟨b, 0, none⟩) L'.length c) L' := by rw [HL.out]; exact HH1.out.row
        have hsw := swap_calls hR1 p j (by rw [HL.out]; omega) (by rw [HL.out]; exact hjn) (by rw [HL.out]; omega)
        rw [HL.out] at hsw
        have HSW := Aside0.mk hsw
        clear hsw hR1
        go_wp2_with (first | (go_at_call 81; refine Aside0.out ?_) | fail)
        refine Aside0.mk ?_
        refine HSW.out.mono ?_
        rintro e w2 ⟨rfl, hr2, hg2⟩
        have hH1 : HS w1 n₀ g q0 q1 q2 q3 M (.slice (some ⟨b, 0, none⟩) L'.length c) L' := by rw [HL.out]; exact HH1.out
        have hH2 := hH1.grown (by rw [HL.out]; exact hr2) hg2
        rw [HL.out] at hH2
        have HH2 := Aside0.mk hH2
        have HG2 := Aside0.mk (HG1.out.trans hg2)
        have HU2 := Aside0.mk (up_step (by rw [HL.out]; exact hjn) hjp HU.out (by rw [← HPE.out]; exact HLT.out))
        have HP2 := Aside0.mk ((swap_perm L' p j (by rw [HL.out]; omega) (by rw [HL.out]; exact hjn)).trans HP.out)
        clear hr2 hg2 hH1 hH2 hc4 HSW
        go_wp2_with fail
        go_roundw
        case rel => exact ⟨p, swapL L' p j, rfl, by omega, ⟨by rw [swapL_length]; exact HL.out⟩, HH2, HG2, HP2, ⟨by rw [HPE.out]; exact HU2.out⟩⟩
        case measure => simp [intOf]; omega
      · rw [decide_eq_false hlt] at hls
        have HLS := Aside0.mk hls
        have HLT := Aside0.mk hlt
        clear hls hR hlt
        go_wp2_with (first | (go_at_call 80; refine Aside0.out ?_) | fail)
        refine Aside0.mk ?_
        refine HLS.out.mono ?_
        rintro e w1 ⟨rfl, hb1⟩
        have HH1 := Aside0.mk (HH.out.below hb1)
        have HG1 := Aside0.mk (HG.out.trans (grown_below hb1 _))
        clear hb1 HLS hc4
        go_wp2_with fail
        refine bodyPost_end (results_none rfl _ _ _) rfl ?_
        exact ⟨by simp, L', HL.out, HH1.out, HG1.out, HP.out, by rw [← HL.out]; exact up_stop HU.out (.inr (by rw [← HPE.out]; have := HLT.out; omega))⟩
end Go.Proofs.YtijpnlmejphfhaaDoor.P
