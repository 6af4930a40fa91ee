/- Texts of this seat, one behind the other (merge.py): the walks of the functions that the law SpectrumLeast uses, and plain words on what they come to. No condition. -/
import Derived.Test.YtijpnlmejphfhaaDoorXMSpectrumLeast2
-- YtijpnlmejphfhaaDoorP38
namespace Go.Proofs.YtijpnlmejphfhaaDoor.P
open Go.RowKit Go.Proofs.YtijpnlmejphfhaaDoorW.PrintWords Go.Proofs.YtijpnlmejphfhaaDoorW.PrintLast Go.Proofs.YtijpnlmejphfhaaDoorW.PrintMore
attribute [local go_sem] max2_int min2_int max_two min_two max_three min_three max_four min_four   -- for this text's walks alone
set_option linter.unusedVariables false
set_option linter.unusedSimpArgs false

/-! ### shuttleref12_weigh: function 32 -/
def shuttleref12_weigh.l0 : Nat → Int → Int → Int → Int → Int → Int → Int → Int → Int → Int → Int → Int → Int → Int → Option (Int)
  | 0, _, _, _, _, _, _, _, _, _, _, _, _, _, _ => none
  | k + 1, x1, x7, x8, x201000, x201001, x201002, x201003, x201004, x201005, x201006, x202000, x202001, x202002, x202003 => if x8 < 4 then (if x8 = 0 then ((shuttleref10_Version.f k 0 x1).bind fun t205 => (if t205 = 0 then (shuttleref12_weigh.l0 k x1 (wrap64 (x7 + (wrap64 ((wrap64 (x201003)) * x202000)))) (0 + 1) x201000 x201001 x201002 x201003 x201004 x201005 x201006 x202000 x202001 x202002 x202003) else (if t205 = 1 then (shuttleref12_weigh.l0 k x1 (wrap64 (x7 + (wrap64 ((wrap64 (x201003)) * x202001)))) (0 + 1) x201000 x201001 x201002 x201003 x201004 x201005 x201006 x202000 x202001 x202002 x202003) else (if t205 = 2 then (shuttleref12_weigh.l0 k x1 (wrap64 (x7 + (wrap64 ((wrap64 (x201003)) * x202002)))) (0 + 1) x201000 x201001 x201002 x201003 x201004 x201005 x201006 x202000 x202001 x202002 x202003) else (if t205 = 3 then (shuttleref12_weigh.l0 k x1 (wrap64 (x7 + (wrap64 ((wrap64 (x201003)) * x202003)))) (0 + 1) x201000 x201001 x201002 x201003 x201004 x201005 x201006 x202000 x202001 x202002 x202003) else (none)))))) else (if x8 = 1 then ((shuttleref10_Version.f k 1 x1).bind fun t204 => (if t204 = 0 then (shuttleref12_weigh.l0 k x1 (wrap64 (x7 + (wrap64 ((wrap64 (x201004)) * x202000)))) (1 + 1) x201000 x201001 x201002 x201003 x201004 x201005 x201006 x202000 x202001 x202002 x202003) else (if t204 = 1 then (shuttleref12_weigh.l0 k x1 (wrap64 (x7 + (wrap64 ((wrap64 (x201004)) * x202001)))) (1 + 1) x201000 x201001 x201002 x201003 x201004 x201005 x201006 x202000 x202001 x202002 x202003) else (if t204 = 2 then (shuttleref12_weigh.l0 k x1 (wrap64 (x7 + (wrap64 ((wrap64 (x201004)) * x202002)))) (1 + 1) x201000 x201001 x201002 x201003 x201004 x201005 x201006 x202000 x202001 x202002 x202003) else (if t204 = 3 then (shuttleref12_weigh.l0 k x1 (wrap64 (x7 + (wrap64 ((wrap64 (x201004)) * x202003)))) (1 + 1) x201000 x201001 x201002 x201003 x201004 x201005 x201006 x202000 x202001 x202002 x202003) else (none)))))) else (if x8 = 2 then ((shuttleref10_Version.f k 2 x1).bind fun t203 => (if t203 = 0 then (shuttleref12_weigh.l0 k x1 (wrap64 (x7 + (wrap64 ((wrap64 (x201005)) * x202000)))) (2 + 1) x201000 x201001 x201002 x201003 x201004 x201005 x201006 x202000 x202001 x202002 x202003) else (if t203 = 1 then (shuttleref12_weigh.l0 k x1 (wrap64 (x7 + (wrap64 ((wrap64 (x201005)) * x202001)))) (2 + 1) x201000 x201001 x201002 x201003 x201004 x201005 x201006 x202000 x202001 x202002 x202003) else (if t203 = 2 then (shuttleref12_weigh.l0 k x1 (wrap64 (x7 + (wrap64 ((wrap64 (x201005)) * x202002)))) (2 + 1) x201000 x201001 x201002 x201003 x201004 x201005 x201006 x202000 x202001 x202002 x202003) else (if t203 = 3 then (shuttleref12_weigh.l0 k x1 (wrap64 (x7 + (wrap64 ((wrap64 (x201005)) * x202003)))) (2 + 1) x201000 x201001 x201002 x201003 x201004 x201005 x201006 x202000 x202001 x202002 x202003) else (none)))))) else (if x8 = 3 then ((shuttleref10_Version.f k 3 x1).bind fun t202 => (if t202 = 0 then (shuttleref12_weigh.l0 k x1 (wrap64 (x7 + (wrap64 ((wrap64 (x201006)) * x202000)))) (3 + 1) x201000 x201001 x201002 x201003 x201004 x201005 x201006 x202000 x202001 x202002 x202003) else (if t202 = 1 then (shuttleref12_weigh.l0 k x1 (wrap64 (x7 + (wrap64 ((wrap64 (x201006)) * x202001)))) (3 + 1) x201000 x201001 x201002 x201003 x201004 x201005 x201006 x202000 x202001 x202002 x202003) else (if t202 = 2 then (shuttleref12_weigh.l0 k x1 (wrap64 (x7 + (wrap64 ((wrap64 (x201006)) * x202002)))) (3 + 1) x201000 x201001 x201002 x201003 x201004 x201005 x201006 x202000 x202001 x202002 x202003) else (if t202 = 3 then (shuttleref12_weigh.l0 k x1 (wrap64 (x7 + (wrap64 ((wrap64 (x201006)) * x202003)))) (3 + 1) x201000 x201001 x201002 x201003 x201004 x201005 x201006 x202000 x202001 x202002 x202003) else (none)))))) else (none))))) else (some x7)
def shuttleref12_weigh.f (k : Nat) (a0_0 : Int) (a0_1 : Int) (a0_2 : Int) (a0_3 : Int) (a0_4 : Int) (a0_5 : Int) (a0_6 : Int) (a1 : Int) (a2_0 : Int) (a2_1 : Int) (a2_2 : Int) (a2_3 : Int) : Option (Int) := shuttleref12_weigh.l0 k a1 0 0 a0_0 a0_1 a0_2 a0_3 a0_4 a0_5 a0_6 a2_0 a2_1 a2_2 a2_3
theorem shuttleref12_weigh.mono_l : ∀ k, (∀ y0 y1 y2 y3 y4 y5 y6 y7 y8 y9 y10 y11 y12 y13, LeO (shuttleref12_weigh.l0 k y0 y1 y2 y3 y4 y5 y6 y7 y8 y9 y10 y11 y12 y13) (shuttleref12_weigh.l0 (k + 1) y0 y1 y2 y3 y4 y5 y6 y7 y8 y9 y10 y11 y12 y13))
  | 0 => fun _ _ _ _ _ _ _ _ _ _ _ _ _ _ r h => by simp [shuttleref12_weigh.l0] at h
  | k + 1 => by
    have ih0 := shuttleref12_weigh.mono_l k
    · intro y0 y1 y2 y3 y4 y5 y6 y7 y8 y9 y10 y11 y12 y13
      unfold shuttleref12_weigh.l0
      repeat' first
      | (with_reducible exact ih0 _ _ _ _ _ _ _ _ _ _ _ _ _ _)
      | (with_reducible exact shuttleref10_Version.mono _ _ _)
      | (with_reducible exact LeO.refl _)
      | (with_reducible exact LeO.none _)
      | (with_reducible refine LeO.ite ?_ ?_)
      | (with_reducible refine LeO.bind ?_ (fun _ => ?_))
      | exact ih0 _ _ _ _ _ _ _ _ _ _ _ _ _ _
      | exact shuttleref10_Version.mono _ _ _
      | exact LeO.none _
      | refine LeO.ite ?_ ?_
      | refine LeO.bind ?_ (fun _ => ?_)
theorem shuttleref12_weigh.mono : ∀ a0 a1 a2 a3 a4 a5 a6 a7 a8 a9 a10 a11 k, LeO (shuttleref12_weigh.f k a0 a1 a2 a3 a4 a5 a6 a7 a8 a9 a10 a11) (shuttleref12_weigh.f (k + 1) a0 a1 a2 a3 a4 a5 a6 a7 a8 a9 a10 a11) := by
  intro a0 a1 a2 a3 a4 a5 a6 a7 a8 a9 a10 a11 k
  have ih0 := shuttleref12_weigh.mono_l k
  unfold shuttleref12_weigh.f
  repeat' first
      | (with_reducible exact ih0 _ _ _ _ _ _ _ _ _ _ _ _ _ _)
      | (with_reducible exact shuttleref10_Version.mono _ _ _)
      | (with_reducible exact LeO.refl _)
      | (with_reducible exact LeO.none _)
      | (with_reducible refine LeO.ite ?_ ?_)
      | (with_reducible refine LeO.bind ?_ (fun _ => ?_))
      | exact ih0 _ _ _ _ _ _ _ _ _ _ _ _ _ _
      | exact shuttleref10_Version.mono _ _ _
      | exact LeO.none _
      | refine LeO.ite ?_ ?_
      | refine LeO.bind ?_ (fun _ => ?_)
set_option maxHeartbeats 8000000 in
set_option maxRecDepth 100000 in
theorem shuttleref12_weigh.calls (k : Nat) (a0_0 : Int) (a0_1 : Int) (a0_2 : Int) (a0_3 : Int) (a0_4 : Int) (a0_5 : Int) (a0_6 : Int) (a1 : Int) (a2_0 : Int) (a2_1 : Int) (a2_2 : Int) (a2_3 : Int) (r : Int) (w : World) (h : shuttleref12_weigh.f k a0_0 a0_1 a0_2 a0_3 a0_4 a0_5 a0_6 a1 a2_0 a2_1 a2_2 a2_3 = some r) :
    Calls Tryd.prog 32 #[.agg #[.int .i64 a0_0, .int .i64 a0_1, .int .u8 a0_2, .int .u8 a0_3, .int .u8 a0_4, .int .u8 a0_5, .int .u8 a0_6], .int .i64 a1, .agg #[.int .i64 a2_0, .int .i64 a2_1, .int .i64 a2_2, .int .i64 a2_3]] w fun e w' => e = .returned (.int .i64 r) ∧ Below w.heap.size w w' := by
  have hu58 := Tryd.underlying58
  have hu22 := Tryd.underlying22
  have HB := Aside0.mk (Below.refl w.heap.size w)
  have H : (shuttleref12_weigh.l0 k a1 0 0 a0_0 a0_1 a0_2 a0_3 a0_4 a0_5 a0_6 a2_0 a2_1 a2_2 a2_3) = some r := h
  clear h
  have H' := Aside0.mk H
  clear H
  go_enter Tryd.func32, Tryd.ntmps32
  go_wp2_with (first | ((with_reducible refine gate_dst (N := 3) rfl ?_); refine box_event ?hg (N := 3) ?hd (cs := #[.int .i64 a0_0, .int .i64 a0_1, .int .u8 a0_2, .int .u8 a0_3, .int .u8 a0_4, .int .u8 a0_5, .int .u8 a0_6]) (t := 58) ?hr ?_; (case hd => rfl); (case hg => rfl); (case hr => first | (go_simp; done) | (go_simp; rfl)); intro gb200 hg w4 hbox hb; have n0_ := Aside0.mk (below_step (by repeat (first | (with_reducible first | exact HB.out | apply below_alloc | apply pw_below_drewN | apply below_drew1) | exact HB.out)) hb); have n1_ := Aside0.mk (hbox); have n2_ := Aside0.mk ((by rw [hg]; exact (below_size (by repeat (first | (with_reducible first | exact HB.out | apply below_alloc | apply pw_below_drewN | apply below_drew1) | exact HB.out))) : w.heap.size ≤ gb200)); have n3_ := Aside0.mk ((by rw [hg]; exact (below_size (by repeat (first | (with_reducible first | exact HB.out | apply below_alloc | apply pw_below_drewN | apply below_drew1) | exact HB.out))) : w.heap.size ≤ gb200)); clear HB; have HB := n0_; have BK200 := n1_; have GW200 := n2_; have GE200 := n3_; clear n0_ n1_ n2_ n3_; clear hb hbox hg) | ((with_reducible refine gate_dst (N := 5) rfl ?_); refine box_event ?hg (N := 5) ?hd (cs := #[.int .i64 a2_0, .int .i64 a2_1, .int .i64 a2_2, .int .i64 a2_3]) (t := 22) ?hr ?_; (case hd => rfl); (case hg => rfl); (case hr => first | (go_simp; done) | (go_simp; rfl)); intro gb201 hg w5 hbox hb; have n0_ := Aside0.mk (blk_below (g := gb200) (o := .cells #[.int .i64 a0_0, .int .i64 a0_1, .int .u8 a0_2, .int .u8 a0_3, .int .u8 a0_4, .int .u8 a0_5, .int .u8 a0_6] 58 (0, 0)) (by (with_reducible repeat (first | refine blk_drewN ?_ _ | refine blk_drew ?_ | refine blk_alloc ?_ _)); exact BK200.out) hb); have n1_ := Aside0.mk (below_step (by repeat (first | (with_reducible first | exact HB.out | apply below_alloc | apply pw_below_drewN | apply below_drew1 | refine below_set ?_ GE200.out) | exact HB.out)) hb); have n2_ := Aside0.mk (hbox); have n3_ := Aside0.mk ((by rw [hg]; exact (below_size (by repeat (first | (with_reducible first | exact HB.out | apply below_alloc | apply pw_below_drewN | apply below_drew1 | refine below_set ?_ GE200.out) | exact HB.out))) : w.heap.size ≤ gb201)); have n4_ := Aside0.mk ((by rw [hg]; exact (below_size (by repeat (first | (with_reducible first | exact HB.out | apply below_alloc | apply pw_below_drewN | apply below_drew1 | refine below_set ?_ GE200.out) | exact HB.out))) : w.heap.size ≤ gb201)); have n5_ := Aside0.mk ((by rw [hg]; exact Nat.ne_of_lt (blk_lt (g := gb200) (o := .cells #[.int .i64 a0_0, .int .i64 a0_1, .int .u8 a0_2, .int .u8 a0_3, .int .u8 a0_4, .int .u8 a0_5, .int .u8 a0_6] 58 (0, 0)) (by (with_reducible repeat (first | refine blk_drewN ?_ _ | refine blk_drew ?_ | refine blk_alloc ?_ _)); exact BK200.out)) : gb200 ≠ gb201)); have n6_ := Aside0.mk ((by rw [hg]; exact Nat.ne_of_gt (blk_lt (g := gb200) (o := .cells #[.int .i64 a0_0, .int .i64 a0_1, .int .u8 a0_2, .int .u8 a0_3, .int .u8 a0_4, .int .u8 a0_5, .int .u8 a0_6] 58 (0, 0)) (by (with_reducible repeat (first | refine blk_drewN ?_ _ | refine blk_drew ?_ | refine blk_alloc ?_ _)); exact BK200.out)) : gb201 ≠ gb200)); clear BK200; clear HB; have BK200 := n0_; have HB := n1_; have BK201 := n2_; have GW201 := n3_; have GE201 := n4_; have NB200_201 := n5_; have NB201_200 := n6_; clear n0_ n1_ n2_ n3_ n4_ n5_ n6_; clear hb hbox hg))
  repeat ((with_reducible refine gate_quiet ?_); go_quiet (first | ((with_reducible refine gate_dst (N := 3) rfl ?_); refine box_event ?hg (N := 3) ?hd (cs := #[.int .i64 a0_0, .int .i64 a0_1, .int .u8 a0_2, .int .u8 a0_3, .int .u8 a0_4, .int .u8 a0_5, .int .u8 a0_6]) (t := 58) ?hr ?_; (case hd => rfl); (case hg => rfl); (case hr => first | (go_simp; done) | (go_simp; rfl)); intro gb200 hg w4 hbox hb; have n0_ := Aside0.mk (below_step (by repeat (first | (with_reducible first | exact HB.out | apply below_alloc | apply pw_below_drewN | apply below_drew1) | exact HB.out)) hb); have n1_ := Aside0.mk (hbox); have n2_ := Aside0.mk ((by rw [hg]; exact (below_size (by repeat (first | (with_reducible first | exact HB.out | apply below_alloc | apply pw_below_drewN | apply below_drew1) | exact HB.out))) : w.heap.size ≤ gb200)); have n3_ := Aside0.mk ((by rw [hg]; exact (below_size (by repeat (first | (with_reducible first | exact HB.out | apply below_alloc | apply pw_below_drewN | apply below_drew1) | exact HB.out))) : w.heap.size ≤ gb200)); clear HB; have HB := n0_; have BK200 := n1_; have GW200 := n2_; have GE200 := n3_; clear n0_ n1_ n2_ n3_; clear hb hbox hg) | ((with_reducible refine gate_dst (N := 5) rfl ?_); refine box_event ?hg (N := 5) ?hd (cs := #[.int .i64 a2_0, .int .i64 a2_1, .int .i64 a2_2, .int .i64 a2_3]) (t := 22) ?hr ?_; (case hd => rfl); (case hg => rfl); (case hr => first | (go_simp; done) | (go_simp; rfl)); intro gb201 hg w5 hbox hb; have n0_ := Aside0.mk (blk_below (g := gb200) (o := .cells #[.int .i64 a0_0, .int .i64 a0_1, .int .u8 a0_2, .int .u8 a0_3, .int .u8 a0_4, .int .u8 a0_5, .int .u8 a0_6] 58 (0, 0)) (by (with_reducible repeat (first | refine blk_drewN ?_ _ | refine blk_drew ?_ | refine blk_alloc ?_ _)); exact BK200.out) hb); have n1_ := Aside0.mk (below_step (by repeat (first | (with_reducible first | exact HB.out | apply below_alloc | apply pw_below_drewN | apply below_drew1 | refine below_set ?_ GE200.out) | exact HB.out)) hb); have n2_ := Aside0.mk (hbox); have n3_ := Aside0.mk ((by rw [hg]; exact (below_size (by repeat (first | (with_reducible first | exact HB.out | apply below_alloc | apply pw_below_drewN | apply below_drew1 | refine below_set ?_ GE200.out) | exact HB.out))) : w.heap.size ≤ gb201)); have n4_ := Aside0.mk ((by rw [hg]; exact (below_size (by repeat (first | (with_reducible first | exact HB.out | apply below_alloc | apply pw_below_drewN | apply below_drew1 | refine below_set ?_ GE200.out) | exact HB.out))) : w.heap.size ≤ gb201)); have n5_ := Aside0.mk ((by rw [hg]; exact Nat.ne_of_lt (blk_lt (g := gb200) (o := .cells #[.int .i64 a0_0, .int .i64 a0_1, .int .u8 a0_2, .int .u8 a0_3, .int .u8 a0_4, .int .u8 a0_5, .int .u8 a0_6] 58 (0, 0)) (by (with_reducible repeat (first | refine blk_drewN ?_ _ | refine blk_drew ?_ | refine blk_alloc ?_ _)); exact BK200.out)) : gb200 ≠ gb201)); have n6_ := Aside0.mk ((by rw [hg]; exact Nat.ne_of_gt (blk_lt (g := gb200) (o := .cells #[.int .i64 a0_0, .int .i64 a0_1, .int .u8 a0_2, .int .u8 a0_3, .int .u8 a0_4, .int .u8 a0_5, .int .u8 a0_6] 58 (0, 0)) (by (with_reducible repeat (first | refine blk_drewN ?_ _ | refine blk_drew ?_ | refine blk_alloc ?_ _)); exact BK200.out)) : gb201 ≠ gb200)); clear BK200; clear HB; have BK200 := n0_; have HB := n1_; have BK201 := n2_; have GW201 := n3_; have GE201 := n4_; have NB200_201 := n5_; have NB201_200 := n6_; clear n0_ n1_ n2_ n3_ n4_ n5_ n6_; clear hb hbox hg)); try go_wp2_with (first | ((with_reducible refine gate_dst (N := 3) rfl ?_); refine box_event ?hg (N := 3) ?hd (cs := #[.int .i64 a0_0, .int .i64 a0_1, .int .u8 a0_2, .int .u8 a0_3, .int .u8 a0_4, .int .u8 a0_5, .int .u8 a0_6]) (t := 58) ?hr ?_; (case hd => rfl); (case hg => rfl); (case hr => first | (go_simp; done) | (go_simp; rfl)); intro gb200 hg w4 hbox hb; have n0_ := Aside0.mk (below_step (by repeat (first | (with_reducible first | exact HB.out | apply below_alloc | apply pw_below_drewN | apply below_drew1) | exact HB.out)) hb); have n1_ := Aside0.mk (hbox); have n2_ := Aside0.mk ((by rw [hg]; exact (below_size (by repeat (first | (with_reducible first | exact HB.out | apply below_alloc | apply pw_below_drewN | apply below_drew1) | exact HB.out))) : w.heap.size ≤ gb200)); have n3_ := Aside0.mk ((by rw [hg]; exact (below_size (by repeat (first | (with_reducible first | exact HB.out | apply below_alloc | apply pw_below_drewN | apply below_drew1) | exact HB.out))) : w.heap.size ≤ gb200)); clear HB; have HB := n0_; have BK200 := n1_; have GW200 := n2_; have GE200 := n3_; clear n0_ n1_ n2_ n3_; clear hb hbox hg) | ((with_reducible refine gate_dst (N := 5) rfl ?_); refine box_event ?hg (N := 5) ?hd (cs := #[.int .i64 a2_0, .int .i64 a2_1, .int .i64 a2_2, .int .i64 a2_3]) (t := 22) ?hr ?_; (case hd => rfl); (case hg => rfl); (case hr => first | (go_simp; done) | (go_simp; rfl)); intro gb201 hg w5 hbox hb; have n0_ := Aside0.mk (blk_below (g := gb200) (o := .cells #[.int .i64 a0_0, .int .i64 a0_1, .int .u8 a0_2, .int .u8 a0_3, .int .u8 a0_4, .int .u8 a0_5, .int .u8 a0_6] 58 (0, 0)) (by (with_reducible repeat (first | refine blk_drewN ?_ _ | refine blk_drew ?_ | refine blk_alloc ?_ _)); exact BK200.out) hb); have n1_ := Aside0.mk (below_step (by repeat (first | (with_reducible first | exact HB.out | apply below_alloc | apply pw_below_drewN | apply below_drew1 | refine below_set ?_ GE200.out) | exact HB.out)) hb); have n2_ := Aside0.mk (hbox); have n3_ := Aside0.mk ((by rw [hg]; exact (below_size (by repeat (first | (with_reducible first | exact HB.out | apply below_alloc | apply pw_below_drewN | apply below_drew1 | refine below_set ?_ GE200.out) | exact HB.out))) : w.heap.size ≤ gb201)); have n4_ := Aside0.mk ((by rw [hg]; exact (below_size (by repeat (first | (with_reducible first | exact HB.out | apply below_alloc | apply pw_below_drewN | apply below_drew1 | refine below_set ?_ GE200.out) | exact HB.out))) : w.heap.size ≤ gb201)); have n5_ := Aside0.mk ((by rw [hg]; exact Nat.ne_of_lt (blk_lt (g := gb200) (o := .cells #[.int .i64 a0_0, .int .i64 a0_1, .int .u8 a0_2, .int .u8 a0_3, .int .u8 a0_4, .int .u8 a0_5, .int .u8 a0_6] 58 (0, 0)) (by (with_reducible repeat (first | refine blk_drewN ?_ _ | refine blk_drew ?_ | refine blk_alloc ?_ _)); exact BK200.out)) : gb200 ≠ gb201)); have n6_ := Aside0.mk ((by rw [hg]; exact Nat.ne_of_gt (blk_lt (g := gb200) (o := .cells #[.int .i64 a0_0, .int .i64 a0_1, .int .u8 a0_2, .int .u8 a0_3, .int .u8 a0_4, .int .u8 a0_5, .int .u8 a0_6] 58 (0, 0)) (by (with_reducible repeat (first | refine blk_drewN ?_ _ | refine blk_drew ?_ | refine blk_alloc ?_ _)); exact BK200.out)) : gb201 ≠ gb200)); clear BK200; clear HB; have BK200 := n0_; have HB := n1_; have BK201 := n2_; have GW201 := n3_; have GE201 := n4_; have NB200_201 := n5_; have NB201_200 := n6_; clear n0_ n1_ n2_ n3_ n4_ n5_ n6_; clear hb hbox hg)))
  go_loopg [7, 8] k (fun kq v7 v8 w' => ∃ (x7_1 : Int) (x8_1 : Int), v7 = .int .i64 x7_1 ∧ v8 = .int .i64 x8_1 ∧ Aside0 (shuttleref12_weigh.l0 kq a1 x7_1 x8_1 a0_0 a0_1 a0_2 a0_3 a0_4 a0_5 a0_6 a2_0 a2_1 a2_2 a2_3 = some r) ∧ Aside0 (kq ≤ k) ∧ Aside0 (w'.heap[gb200]? = some (.cells #[.int .i64 a0_0, .int .i64 a0_1, .int .u8 a0_2, .int .u8 a0_3, .int .u8 a0_4, .int .u8 a0_5, .int .u8 a0_6] 58 (0, 0))) ∧ Aside0 (w'.heap[gb201]? = some (.cells #[.int .i64 a2_0, .int .i64 a2_1, .int .i64 a2_2, .int .i64 a2_3] 22 (0, 0))) ∧ Aside0 (Below w.heap.size w w'))
  case atStart => exact ⟨(0), (0), (by first | rfl | (simp; done) | (simp [*]; done)), (by first | rfl | (simp; done) | (simp [*]; done)), H', ⟨Nat.le_refl _⟩, ⟨by (with_reducible repeat (first | refine blk_drewN ?_ _ | refine blk_drew ?_ | refine blk_alloc ?_ _)); exact BK200.out⟩, ⟨by (with_reducible repeat (first | refine blk_drewN ?_ _ | refine blk_drew ?_ | refine blk_alloc ?_ _)); exact BK201.out⟩, ⟨by repeat (first | (with_reducible first | exact HB.out | apply below_alloc | apply pw_below_drewN | apply below_drew1 | refine below_set ?_ GE200.out | refine below_set ?_ GE201.out) | exact HB.out)⟩⟩
  case round =>
    clear H'
    try clear p2
    try clear c3
    obtain ⟨x7_1, x8_1, rfl, rfl, HA, HK1, BK200, BK201, HB⟩ := hrel
    cases gk with
    | zero => exact absurd HA.out (by simp [shuttleref12_weigh.l0])
    | succ k1 =>
      have H := HA.out
      clear HA
      simp only [shuttleref12_weigh.l0] at H
      by_cases c6 : x8_1 < 4
      · rw [if_pos c6] at H
        have c6b0 : decide (x8_1 < 4) = true := decide_eq_true c6
        clear c6
        by_cases c7 : x8_1 = 0
        · rw [if_pos c7] at H
          subst c7
          replace H := Option.bind_eq_some_iff.mp H
          obtain ⟨t205, A80, H⟩ := H
          replace H : (if t205 = 0 then (shuttleref12_weigh.l0 k1 a1 (wrap64 (x7_1 + (wrap64 ((wrap64 (a0_3)) * a2_0)))) (0 + 1) a0_0 a0_1 a0_2 a0_3 a0_4 a0_5 a0_6 a2_0 a2_1 a2_2 a2_3) else (if t205 = 1 then (shuttleref12_weigh.l0 k1 a1 (wrap64 (x7_1 + (wrap64 ((wrap64 (a0_3)) * a2_1)))) (0 + 1) a0_0 a0_1 a0_2 a0_3 a0_4 a0_5 a0_6 a2_0 a2_1 a2_2 a2_3) else (if t205 = 2 then (shuttleref12_weigh.l0 k1 a1 (wrap64 (x7_1 + (wrap64 ((wrap64 (a0_3)) * a2_2)))) (0 + 1) a0_0 a0_1 a0_2 a0_3 a0_4 a0_5 a0_6 a2_0 a2_1 a2_2 a2_3) else (if t205 = 3 then (shuttleref12_weigh.l0 k1 a1 (wrap64 (x7_1 + (wrap64 ((wrap64 (a0_3)) * a2_3)))) (0 + 1) a0_0 a0_1 a0_2 a0_3 a0_4 a0_5 a0_6 a2_0 a2_1 a2_2 a2_3) else (none))))) = some r := H
          have A8 := Aside0.mk A80
          clear A80
          by_cases c9 : t205 = 0
          · rw [if_pos c9] at H
            subst c9
            have H' := Aside0.mk H
            clear H
            have hnb10 := NB200_201.out
            have hnc10 := NB201_200.out
            have hcz11_0 : wr.cell? ⟨gb200, 0, none⟩ = some (.int .i64 a0_0) := (blk_cell BK200.out 0).trans rfl
            have hcz11_1 : wr.cell? ⟨gb200, 1, none⟩ = some (.int .i64 a0_1) := (blk_cell BK200.out 1).trans rfl
            have hcz11_2 : wr.cell? ⟨gb200, 2, none⟩ = some (.int .u8 a0_2) := (blk_cell BK200.out 2).trans rfl
            have hcz11_3 : wr.cell? ⟨gb200, 3, none⟩ = some (.int .u8 a0_3) := (blk_cell BK200.out 3).trans rfl
            have hcz11_4 : wr.cell? ⟨gb200, 4, none⟩ = some (.int .u8 a0_4) := (blk_cell BK200.out 4).trans rfl
            have hcz11_5 : wr.cell? ⟨gb200, 5, none⟩ = some (.int .u8 a0_5) := (blk_cell BK200.out 5).trans rfl
            have hcz11_6 : wr.cell? ⟨gb200, 6, none⟩ = some (.int .u8 a0_6) := (blk_cell BK200.out 6).trans rfl
            have hfz11_0 := blk_frozen BK200.out 0
            have hfz11_1 := blk_frozen BK200.out 1
            have hfz11_2 := blk_frozen BK200.out 2
            have hfz11_3 := blk_frozen BK200.out 3
            have hfz11_4 := blk_frozen BK200.out 4
            have hfz11_5 := blk_frozen BK200.out 5
            have hfz11_6 := blk_frozen BK200.out 6
            have hcz12_0 : wr.cell? ⟨gb201, 0, none⟩ = some (.int .i64 a2_0) := (blk_cell BK201.out 0).trans rfl
            have hcz12_1 : wr.cell? ⟨gb201, 1, none⟩ = some (.int .i64 a2_1) := (blk_cell BK201.out 1).trans rfl
            have hcz12_2 : wr.cell? ⟨gb201, 2, none⟩ = some (.int .i64 a2_2) := (blk_cell BK201.out 2).trans rfl
            have hcz12_3 : wr.cell? ⟨gb201, 3, none⟩ = some (.int .i64 a2_3) := (blk_cell BK201.out 3).trans rfl
            have hfz12_0 := blk_frozen BK201.out 0
            have hfz12_1 := blk_frozen BK201.out 1
            have hfz12_2 := blk_frozen BK201.out 2
            have hfz12_3 := blk_frozen BK201.out 3
            go_wp2_with (first | (go_at_call 30; (with_reducible refine (shuttleref10_Version.calls k1 0 a1 0 _ A8.out).mono ?_); rintro e w' ⟨rfl, ⟨nd, rfl⟩⟩; (try first | exact ⟨rfl, _, World.drewN_drewN _ _ _⟩ | exact ⟨rfl, _, Eq.trans (World.drewN_drewN _ _ _) (congrArg (World.drewN _) (Nat.add_assoc _ _ _))⟩)))
            repeat ((with_reducible refine gate_quiet ?_); go_quiet (first | (go_at_call 30; (with_reducible refine (shuttleref10_Version.calls k1 0 a1 0 _ A8.out).mono ?_); rintro e w' ⟨rfl, ⟨nd, rfl⟩⟩; (try first | exact ⟨rfl, _, World.drewN_drewN _ _ _⟩ | exact ⟨rfl, _, Eq.trans (World.drewN_drewN _ _ _) (congrArg (World.drewN _) (Nat.add_assoc _ _ _))⟩))); try go_wp2_with (first | (go_at_call 30; (with_reducible refine (shuttleref10_Version.calls k1 0 a1 0 _ A8.out).mono ?_); rintro e w' ⟨rfl, ⟨nd, rfl⟩⟩; (try first | exact ⟨rfl, _, World.drewN_drewN _ _ _⟩ | exact ⟨rfl, _, Eq.trans (World.drewN_drewN _ _ _) (congrArg (World.drewN _) (Nat.add_assoc _ _ _))⟩))))
            go_roundg k1
            case measure => have := HK1.out; omega
            case rel => exact ⟨(wrap64 (x7_1 + (wrap64 ((wrap64 (a0_3)) * a2_0)))), (0 + 1), (by first | rfl | (simp; done) | (simp [*]; done)), (by first | rfl | (simp; done) | (simp [*]; done)), H', ⟨by have := HK1.out; omega⟩, ⟨by (with_reducible repeat (first | refine blk_drewN ?_ _ | refine blk_drew ?_ | refine blk_alloc ?_ _)); exact BK200.out⟩, ⟨by (with_reducible repeat (first | refine blk_drewN ?_ _ | refine blk_drew ?_ | refine blk_alloc ?_ _)); exact BK201.out⟩, ⟨by repeat (first | (with_reducible first | exact HB.out | apply below_alloc | apply pw_below_drewN | apply below_drew1 | refine below_set ?_ GE200.out | refine below_set ?_ GE201.out) | exact HB.out)⟩⟩
          · rw [if_neg c9] at H
            clear c9
            by_cases c13 : t205 = 1
            · rw [if_pos c13] at H
              subst c13
              have H' := Aside0.mk H
              clear H
              have hnb14 := NB200_201.out
              have hnc14 := NB201_200.out
              have hcz15_0 : wr.cell? ⟨gb200, 0, none⟩ = some (.int .i64 a0_0) := (blk_cell BK200.out 0).trans rfl
              have hcz15_1 : wr.cell? ⟨gb200, 1, none⟩ = some (.int .i64 a0_1) := (blk_cell BK200.out 1).trans rfl
              have hcz15_2 : wr.cell? ⟨gb200, 2, none⟩ = some (.int .u8 a0_2) := (blk_cell BK200.out 2).trans rfl
              have hcz15_3 : wr.cell? ⟨gb200, 3, none⟩ = some (.int .u8 a0_3) := (blk_cell BK200.out 3).trans rfl
              have hcz15_4 : wr.cell? ⟨gb200, 4, none⟩ = some (.int .u8 a0_4) := (blk_cell BK200.out 4).trans rfl
              have hcz15_5 : wr.cell? ⟨gb200, 5, none⟩ = some (.int .u8 a0_5) := (blk_cell BK200.out 5).trans rfl
              have hcz15_6 : wr.cell? ⟨gb200, 6, none⟩ = some (.int .u8 a0_6) := (blk_cell BK200.out 6).trans rfl
              have hfz15_0 := blk_frozen BK200.out 0
              have hfz15_1 := blk_frozen BK200.out 1
              have hfz15_2 := blk_frozen BK200.out 2
              have hfz15_3 := blk_frozen BK200.out 3
              have hfz15_4 := blk_frozen BK200.out 4
              have hfz15_5 := blk_frozen BK200.out 5
              have hfz15_6 := blk_frozen BK200.out 6
              have hcz16_0 : wr.cell? ⟨gb201, 0, none⟩ = some (.int .i64 a2_0) := (blk_cell BK201.out 0).trans rfl
              have hcz16_1 : wr.cell? ⟨gb201, 1, none⟩ = some (.int .i64 a2_1) := (blk_cell BK201.out 1).trans rfl
              have hcz16_2 : wr.cell? ⟨gb201, 2, none⟩ = some (.int .i64 a2_2) := (blk_cell BK201.out 2).trans rfl
              have hcz16_3 : wr.cell? ⟨gb201, 3, none⟩ = some (.int .i64 a2_3) := (blk_cell BK201.out 3).trans rfl
              have hfz16_0 := blk_frozen BK201.out 0
              have hfz16_1 := blk_frozen BK201.out 1
              have hfz16_2 := blk_frozen BK201.out 2
              have hfz16_3 := blk_frozen BK201.out 3
              go_wp2_with (first | (go_at_call 30; (with_reducible refine (shuttleref10_Version.calls k1 0 a1 1 _ A8.out).mono ?_); rintro e w' ⟨rfl, ⟨nd, rfl⟩⟩; (try first | exact ⟨rfl, _, World.drewN_drewN _ _ _⟩ | exact ⟨rfl, _, Eq.trans (World.drewN_drewN _ _ _) (congrArg (World.drewN _) (Nat.add_assoc _ _ _))⟩)))
              repeat ((with_reducible refine gate_quiet ?_); go_quiet (first | (go_at_call 30; (with_reducible refine (shuttleref10_Version.calls k1 0 a1 1 _ A8.out).mono ?_); rintro e w' ⟨rfl, ⟨nd, rfl⟩⟩; (try first | exact ⟨rfl, _, World.drewN_drewN _ _ _⟩ | exact ⟨rfl, _, Eq.trans (World.drewN_drewN _ _ _) (congrArg (World.drewN _) (Nat.add_assoc _ _ _))⟩))); try go_wp2_with (first | (go_at_call 30; (with_reducible refine (shuttleref10_Version.calls k1 0 a1 1 _ A8.out).mono ?_); rintro e w' ⟨rfl, ⟨nd, rfl⟩⟩; (try first | exact ⟨rfl, _, World.drewN_drewN _ _ _⟩ | exact ⟨rfl, _, Eq.trans (World.drewN_drewN _ _ _) (congrArg (World.drewN _) (Nat.add_assoc _ _ _))⟩))))
              go_roundg k1
              case measure => have := HK1.out; omega
              case rel => exact ⟨(wrap64 (x7_1 + (wrap64 ((wrap64 (a0_3)) * a2_1)))), (0 + 1), (by first | rfl | (simp; done) | (simp [*]; done)), (by first | rfl | (simp; done) | (simp [*]; done)), H', ⟨by have := HK1.out; omega⟩, ⟨by (with_reducible repeat (first | refine blk_drewN ?_ _ | refine blk_drew ?_ | refine blk_alloc ?_ _)); exact BK200.out⟩, ⟨by (with_reducible repeat (first | refine blk_drewN ?_ _ | refine blk_drew ?_ | refine blk_alloc ?_ _)); exact BK201.out⟩, ⟨by repeat (first | (with_reducible first | exact HB.out | apply below_alloc | apply pw_below_drewN | apply below_drew1 | refine below_set ?_ GE200.out | refine below_set ?_ GE201.out) | exact HB.out)⟩⟩
            · rw [if_neg c13] at H
              clear c13
              by_cases c17 : t205 = 2
              · rw [if_pos c17] at H
                subst c17
                have H' := Aside0.mk H
                clear H
                have hnb18 := NB200_201.out
                have hnc18 := NB201_200.out
                have hcz19_0 : wr.cell? ⟨gb200, 0, none⟩ = some (.int .i64 a0_0) := (blk_cell BK200.out 0).trans rfl
                have hcz19_1 : wr.cell? ⟨gb200, 1, none⟩ = some (.int .i64 a0_1) := (blk_cell BK200.out 1).trans rfl
                have hcz19_2 : wr.cell? ⟨gb200, 2, none⟩ = some (.int .u8 a0_2) := (blk_cell BK200.out 2).trans rfl
                have hcz19_3 : wr.cell? ⟨gb200, 3, none⟩ = some (.int .u8 a0_3) := (blk_cell BK200.out 3).trans rfl
                have hcz19_4 : wr.cell? ⟨gb200, 4, none⟩ = some (.int .u8 a0_4) := (blk_cell BK200.out 4).trans rfl
                have hcz19_5 : wr.cell? ⟨gb200, 5, none⟩ = some (.int .u8 a0_5) := (blk_cell BK200.out 5).trans rfl
                have hcz19_6 : wr.cell? ⟨gb200, 6, none⟩ = some (.int .u8 a0_6) := (blk_cell BK200.out 6).trans rfl
                have hfz19_0 := blk_frozen BK200.out 0
                have hfz19_1 := blk_frozen BK200.out 1
                have hfz19_2 := blk_frozen BK200.out 2
                have hfz19_3 := blk_frozen BK200.out 3
                have hfz19_4 := blk_frozen BK200.out 4
                have hfz19_5 := blk_frozen BK200.out 5
                have hfz19_6 := blk_frozen BK200.out 6
                have hcz20_0 : wr.cell? ⟨gb201, 0, none⟩ = some (.int .i64 a2_0) := (blk_cell BK201.out 0).trans rfl
                have hcz20_1 : wr.cell? ⟨gb201, 1, none⟩ = some (.int .i64 a2_1) := (blk_cell BK201.out 1).trans rfl
                have hcz20_2 : wr.cell? ⟨gb201, 2, none⟩ = some (.int .i64 a2_2) := (blk_cell BK201.out 2).trans rfl
                have hcz20_3 : wr.cell? ⟨gb201, 3, none⟩ = some (.int .i64 a2_3) := (blk_cell BK201.out 3).trans rfl
                have hfz20_0 := blk_frozen BK201.out 0
                have hfz20_1 := blk_frozen BK201.out 1
                have hfz20_2 := blk_frozen BK201.out 2
                have hfz20_3 := blk_frozen BK201.out 3
                go_wp2_with (first | (go_at_call 30; (with_reducible refine (shuttleref10_Version.calls k1 0 a1 2 _ A8.out).mono ?_); rintro e w' ⟨rfl, ⟨nd, rfl⟩⟩; (try first | exact ⟨rfl, _, World.drewN_drewN _ _ _⟩ | exact ⟨rfl, _, Eq.trans (World.drewN_drewN _ _ _) (congrArg (World.drewN _) (Nat.add_assoc _ _ _))⟩)))
                repeat ((with_reducible refine gate_quiet ?_); go_quiet (first | (go_at_call 30; (with_reducible refine (shuttleref10_Version.calls k1 0 a1 2 _ A8.out).mono ?_); rintro e w' ⟨rfl, ⟨nd, rfl⟩⟩; (try first | exact ⟨rfl, _, World.drewN_drewN _ _ _⟩ | exact ⟨rfl, _, Eq.trans (World.drewN_drewN _ _ _) (congrArg (World.drewN _) (Nat.add_assoc _ _ _))⟩))); try go_wp2_with (first | (go_at_call 30; (with_reducible refine (shuttleref10_Version.calls k1 0 a1 2 _ A8.out).mono ?_); rintro e w' ⟨rfl, ⟨nd, rfl⟩⟩; (try first | exact ⟨rfl, _, World.drewN_drewN _ _ _⟩ | exact ⟨rfl, _, Eq.trans (World.drewN_drewN _ _ _) (congrArg (World.drewN _) (Nat.add_assoc _ _ _))⟩))))
                go_roundg k1
                case measure => have := HK1.out; omega
                case rel => exact ⟨(wrap64 (x7_1 + (wrap64 ((wrap64 (a0_3)) * a2_2)))), (0 + 1), (by first | rfl | (simp; done) | (simp [*]; done)), (by first | rfl | (simp; done) | (simp [*]; done)), H', ⟨by have := HK1.out; omega⟩, ⟨by (with_reducible repeat (first | refine blk_drewN ?_ _ | refine blk_drew ?_ | refine blk_alloc ?_ _)); exact BK200.out⟩, ⟨by (with_reducible repeat (first | refine blk_drewN ?_ _ | refine blk_drew ?_ | refine blk_alloc ?_ _)); exact BK201.out⟩, ⟨by repeat (first | (with_reducible first | exact HB.out | apply below_alloc | apply pw_below_drewN | apply below_drew1 | refine below_set ?_ GE200.out | refine below_set ?_ GE201.out) | exact HB.out)⟩⟩
              · rw [if_neg c17] at H
                clear c17
                by_cases c21 : t205 = 3
                · rw [if_pos c21] at H
                  subst c21
                  have H' := Aside0.mk H
                  clear H
                  have hnb22 := NB200_201.out
                  have hnc22 := NB201_200.out
                  have hcz23_0 : wr.cell? ⟨gb200, 0, none⟩ = some (.int .i64 a0_0) := (blk_cell BK200.out 0).trans rfl
                  have hcz23_1 : wr.cell? ⟨gb200, 1, none⟩ = some (.int .i64 a0_1) := (blk_cell BK200.out 1).trans rfl
                  have hcz23_2 : wr.cell? ⟨gb200, 2, none⟩ = some (.int .u8 a0_2) := (blk_cell BK200.out 2).trans rfl
                  have hcz23_3 : wr.cell? ⟨gb200, 3, none⟩ = some (.int .u8 a0_3) := (blk_cell BK200.out 3).trans rfl
                  have hcz23_4 : wr.cell? ⟨gb200, 4, none⟩ = some (.int .u8 a0_4) := (blk_cell BK200.out 4).trans rfl
                  have hcz23_5 : wr.cell? ⟨gb200, 5, none⟩ = some (.int .u8 a0_5) := (blk_cell BK200.out 5).trans rfl
                  have hcz23_6 : wr.cell? ⟨gb200, 6, none⟩ = some (.int .u8 a0_6) := (blk_cell BK200.out 6).trans rfl
                  have hfz23_0 := blk_frozen BK200.out 0
                  have hfz23_1 := blk_frozen BK200.out 1
                  have hfz23_2 := blk_frozen BK200.out 2
                  have hfz23_3 := blk_frozen BK200.out 3
                  have hfz23_4 := blk_frozen BK200.out 4
                  have hfz23_5 := blk_frozen BK200.out 5
                  have hfz23_6 := blk_frozen BK200.out 6
                  have hcz24_0 : wr.cell? ⟨gb201, 0, none⟩ = some (.int .i64 a2_0) := (blk_cell BK201.out 0).trans rfl
                  have hcz24_1 : wr.cell? ⟨gb201, 1, none⟩ = some (.int .i64 a2_1) := (blk_cell BK201.out 1).trans rfl
                  have hcz24_2 : wr.cell? ⟨gb201, 2, none⟩ = some (.int .i64 a2_2) := (blk_cell BK201.out 2).trans rfl
                  have hcz24_3 : wr.cell? ⟨gb201, 3, none⟩ = some (.int .i64 a2_3) := (blk_cell BK201.out 3).trans rfl
                  have hfz24_0 := blk_frozen BK201.out 0
                  have hfz24_1 := blk_frozen BK201.out 1
                  have hfz24_2 := blk_frozen BK201.out 2
                  have hfz24_3 := blk_frozen BK201.out 3
                  go_wp2_with (first | (go_at_call 30; (with_reducible refine (shuttleref10_Version.calls k1 0 a1 3 _ A8.out).mono ?_); rintro e w' ⟨rfl, ⟨nd, rfl⟩⟩; (try first | exact ⟨rfl, _, World.drewN_drewN _ _ _⟩ | exact ⟨rfl, _, Eq.trans (World.drewN_drewN _ _ _) (congrArg (World.drewN _) (Nat.add_assoc _ _ _))⟩)))
                  repeat ((with_reducible refine gate_quiet ?_); go_quiet (first | (go_at_call 30; (with_reducible refine (shuttleref10_Version.calls k1 0 a1 3 _ A8.out).mono ?_); rintro e w' ⟨rfl, ⟨nd, rfl⟩⟩; (try first | exact ⟨rfl, _, World.drewN_drewN _ _ _⟩ | exact ⟨rfl, _, Eq.trans (World.drewN_drewN _ _ _) (congrArg (World.drewN _) (Nat.add_assoc _ _ _))⟩))); try go_wp2_with (first | (go_at_call 30; (with_reducible refine (shuttleref10_Version.calls k1 0 a1 3 _ A8.out).mono ?_); rintro e w' ⟨rfl, ⟨nd, rfl⟩⟩; (try first | exact ⟨rfl, _, World.drewN_drewN _ _ _⟩ | exact ⟨rfl, _, Eq.trans (World.drewN_drewN _ _ _) (congrArg (World.drewN _) (Nat.add_assoc _ _ _))⟩))))
                  go_roundg k1
                  case measure => have := HK1.out; omega
                  case rel => exact ⟨(wrap64 (x7_1 + (wrap64 ((wrap64 (a0_3)) * a2_3)))), (0 + 1), (by first | rfl | (simp; done) | (simp [*]; done)), (by first | rfl | (simp; done) | (simp [*]; done)), H', ⟨by have := HK1.out; omega⟩, ⟨by (with_reducible repeat (first | refine blk_drewN ?_ _ | refine blk_drew ?_ | refine blk_alloc ?_ _)); exact BK200.out⟩, ⟨by (with_reducible repeat (first | refine blk_drewN ?_ _ | refine blk_drew ?_ | refine blk_alloc ?_ _)); exact BK201.out⟩, ⟨by repeat (first | (with_reducible first | exact HB.out | apply below_alloc | apply pw_below_drewN | apply below_drew1 | refine below_set ?_ GE200.out | refine below_set ?_ GE201.out) | exact HB.out)⟩⟩
                · rw [if_neg c21] at H
                  clear c21
                  exact absurd H (by simp)
        · rw [if_neg c7] at H
          clear c7
          by_cases c25 : x8_1 = 1
          · rw [if_pos c25] at H
            subst c25
            replace H := Option.bind_eq_some_iff.mp H
            obtain ⟨t204, A260, H⟩ := H
            replace H : (if t204 = 0 then (shuttleref12_weigh.l0 k1 a1 (wrap64 (x7_1 + (wrap64 ((wrap64 (a0_4)) * a2_0)))) (1 + 1) a0_0 a0_1 a0_2 a0_3 a0_4 a0_5 a0_6 a2_0 a2_1 a2_2 a2_3) else (if t204 = 1 then (shuttleref12_weigh.l0 k1 a1 (wrap64 (x7_1 + (wrap64 ((wrap64 (a0_4)) * a2_1)))) (1 + 1) a0_0 a0_1 a0_2 a0_3 a0_4 a0_5 a0_6 a2_0 a2_1 a2_2 a2_3) else (if t204 = 2 then (shuttleref12_weigh.l0 k1 a1 (wrap64 (x7_1 + (wrap64 ((wrap64 (a0_4)) * a2_2)))) (1 + 1) a0_0 a0_1 a0_2 a0_3 a0_4 a0_5 a0_6 a2_0 a2_1 a2_2 a2_3) else (if t204 = 3 then (shuttleref12_weigh.l0 k1 a1 (wrap64 (x7_1 + (wrap64 ((wrap64 (a0_4)) * a2_3)))) (1 + 1) a0_0 a0_1 a0_2 a0_3 a0_4 a0_5 a0_6 a2_0 a2_1 a2_2 a2_3) else (none))))) = some r := H
            have A26 := Aside0.mk A260
            clear A260
            by_cases c27 : t204 = 0
            · rw [if_pos c27] at H
              subst c27
              have H' := Aside0.mk H
              clear H
              have hnb28 := NB200_201.out
              have hnc28 := NB201_200.out
              have hcz29_0 : wr.cell? ⟨gb200, 0, none⟩ = some (.int .i64 a0_0) := (blk_cell BK200.out 0).trans rfl
              have hcz29_1 : wr.cell? ⟨gb200, 1, none⟩ = some (.int .i64 a0_1) := (blk_cell BK200.out 1).trans rfl
              have hcz29_2 : wr.cell? ⟨gb200, 2, none⟩ = some (.int .u8 a0_2) := (blk_cell BK200.out 2).trans rfl
              have hcz29_3 : wr.cell? ⟨gb200, 3, none⟩ = some (.int .u8 a0_3) := (blk_cell BK200.out 3).trans rfl
              have hcz29_4 : wr.cell? ⟨gb200, 4, none⟩ = some (.int .u8 a0_4) := (blk_cell BK200.out 4).trans rfl
              have hcz29_5 : wr.cell? ⟨gb200, 5, none⟩ = some (.int .u8 a0_5) := (blk_cell BK200.out 5).trans rfl
              have hcz29_6 : wr.cell? ⟨gb200, 6, none⟩ = some (.int .u8 a0_6) := (blk_cell BK200.out 6).trans rfl
              have hfz29_0 := blk_frozen BK200.out 0
              have hfz29_1 := blk_frozen BK200.out 1
              have hfz29_2 := blk_frozen BK200.out 2
              have hfz29_3 := blk_frozen BK200.out 3
              have hfz29_4 := blk_frozen BK200.out 4
              have hfz29_5 := blk_frozen BK200.out 5
              have hfz29_6 := blk_frozen BK200.out 6
              have hcz30_0 : wr.cell? ⟨gb201, 0, none⟩ = some (.int .i64 a2_0) := (blk_cell BK201.out 0).trans rfl
              have hcz30_1 : wr.cell? ⟨gb201, 1, none⟩ = some (.int .i64 a2_1) := (blk_cell BK201.out 1).trans rfl
              have hcz30_2 : wr.cell? ⟨gb201, 2, none⟩ = some (.int .i64 a2_2) := (blk_cell BK201.out 2).trans rfl
              have hcz30_3 : wr.cell? ⟨gb201, 3, none⟩ = some (.int .i64 a2_3) := (blk_cell BK201.out 3).trans rfl
              have hfz30_0 := blk_frozen BK201.out 0
              have hfz30_1 := blk_frozen BK201.out 1
              have hfz30_2 := blk_frozen BK201.out 2
              have hfz30_3 := blk_frozen BK201.out 3
              go_wp2_with (first | (go_at_call 30; (with_reducible refine (shuttleref10_Version.calls k1 1 a1 0 _ A26.out).mono ?_); rintro e w' ⟨rfl, ⟨nd, rfl⟩⟩; (try first | exact ⟨rfl, _, World.drewN_drewN _ _ _⟩ | exact ⟨rfl, _, Eq.trans (World.drewN_drewN _ _ _) (congrArg (World.drewN _) (Nat.add_assoc _ _ _))⟩)))
              repeat ((with_reducible refine gate_quiet ?_); go_quiet (first | (go_at_call 30; (with_reducible refine (shuttleref10_Version.calls k1 1 a1 0 _ A26.out).mono ?_); rintro e w' ⟨rfl, ⟨nd, rfl⟩⟩; (try first | exact ⟨rfl, _, World.drewN_drewN _ _ _⟩ | exact ⟨rfl, _, Eq.trans (World.drewN_drewN _ _ _) (congrArg (World.drewN _) (Nat.add_assoc _ _ _))⟩))); try go_wp2_with (first | (go_at_call 30; (with_reducible refine (shuttleref10_Version.calls k1 1 a1 0 _ A26.out).mono ?_); rintro e w' ⟨rfl, ⟨nd, rfl⟩⟩; (try first | exact ⟨rfl, _, World.drewN_drewN _ _ _⟩ | exact ⟨rfl, _, Eq.trans (World.drewN_drewN _ _ _) (congrArg (World.drewN _) (Nat.add_assoc _ _ _))⟩))))
              go_roundg k1
              case measure => have := HK1.out; omega
              case rel => exact ⟨(wrap64 (x7_1 + (wrap64 ((wrap64 (a0_4)) * a2_0)))), (1 + 1), (by first | rfl | (simp; done) | (simp [*]; done)), (by first | rfl | (simp; done) | (simp [*]; done)), H', ⟨by have := HK1.out; omega⟩, ⟨by (with_reducible repeat (first | refine blk_drewN ?_ _ | refine blk_drew ?_ | refine blk_alloc ?_ _)); exact BK200.out⟩, ⟨by (with_reducible repeat (first | refine blk_drewN ?_ _ | refine blk_drew ?_ | refine blk_alloc ?_ _)); exact BK201.out⟩, ⟨by repeat (first | (with_reducible first | exact HB.out | apply below_alloc | apply pw_below_drewN | apply below_drew1 | refine below_set ?_ GE200.out | refine below_set ?_ GE201.out) | exact HB.out)⟩⟩
            · rw [if_neg c27] at H
              clear c27
              by_cases c31 : t204 = 1
              · rw [if_pos c31] at H
                subst c31
                have H' := Aside0.mk H
                clear H
                have hnb32 := NB200_201.out
                have hnc32 := NB201_200.out
                have hcz33_0 : wr.cell? ⟨gb200, 0, none⟩ = some (.int .i64 a0_0) := (blk_cell BK200.out 0).trans rfl
                have hcz33_1 : wr.cell? ⟨gb200, 1, none⟩ = some (.int .i64 a0_1) := (blk_cell BK200.out 1).trans rfl
                have hcz33_2 : wr.cell? ⟨gb200, 2, none⟩ = some (.int .u8 a0_2) := (blk_cell BK200.out 2).trans rfl
                have hcz33_3 : wr.cell? ⟨gb200, 3, none⟩ = some (.int .u8 a0_3) := (blk_cell BK200.out 3).trans rfl
                have hcz33_4 : wr.cell? ⟨gb200, 4, none⟩ = some (.int .u8 a0_4) := (blk_cell BK200.out 4).trans rfl
                have hcz33_5 : wr.cell? ⟨gb200, 5, none⟩ = some (.int .u8 a0_5) := (blk_cell BK200.out 5).trans rfl
                have hcz33_6 : wr.cell? ⟨gb200, 6, none⟩ = some (.int .u8 a0_6) := (blk_cell BK200.out 6).trans rfl
                have hfz33_0 := blk_frozen BK200.out 0
                have hfz33_1 := blk_frozen BK200.out 1
                have hfz33_2 := blk_frozen BK200.out 2
                have hfz33_3 := blk_frozen BK200.out 3
                have hfz33_4 := blk_frozen BK200.out 4
                have hfz33_5 := blk_frozen BK200.out 5
                have hfz33_6 := blk_frozen BK200.out 6
                have hcz34_0 : wr.cell? ⟨gb201, 0, none⟩ = some (.int .i64 a2_0) := (blk_cell BK201.out 0).trans rfl
                have hcz34_1 : wr.cell? ⟨gb201, 1, none⟩ = some (.int .i64 a2_1) := (blk_cell BK201.out 1).trans rfl
                have hcz34_2 : wr.cell? ⟨gb201, 2, none⟩ = some (.int .i64 a2_2) := (blk_cell BK201.out 2).trans rfl
                have hcz34_3 : wr.cell? ⟨gb201, 3, none⟩ = some (.int .i64 a2_3) := (blk_cell BK201.out 3).trans rfl
                have hfz34_0 := blk_frozen BK201.out 0
                have hfz34_1 := blk_frozen BK201.out 1
                have hfz34_2 := blk_frozen BK201.out 2
                have hfz34_3 := blk_frozen BK201.out 3
                go_wp2_with (first | (go_at_call 30; (with_reducible refine (shuttleref10_Version.calls k1 1 a1 1 _ A26.out).mono ?_); rintro e w' ⟨rfl, ⟨nd, rfl⟩⟩; (try first | exact ⟨rfl, _, World.drewN_drewN _ _ _⟩ | exact ⟨rfl, _, Eq.trans (World.drewN_drewN _ _ _) (congrArg (World.drewN _) (Nat.add_assoc _ _ _))⟩)))
                repeat ((with_reducible refine gate_quiet ?_); go_quiet (first | (go_at_call 30; (with_reducible refine (shuttleref10_Version.calls k1 1 a1 1 _ A26.out).mono ?_); rintro e w' ⟨rfl, ⟨nd, rfl⟩⟩; (try first | exact ⟨rfl, _, World.drewN_drewN _ _ _⟩ | exact ⟨rfl, _, Eq.trans (World.drewN_drewN _ _ _) (congrArg (World.drewN _) (Nat.add_assoc _ _ _))⟩))); try go_wp2_with (first | (go_at_call 30; (with_reducible refine (shuttleref10_Version.calls k1 1 a1 1 _ A26.out).mono ?_); rintro e w' ⟨rfl, ⟨nd, rfl⟩⟩; (try first | exact ⟨rfl, _, World.drewN_drewN _ _ _⟩ | exact ⟨rfl, _, Eq.trans (World.drewN_drewN _ _ _) (congrArg (World.drewN _) (Nat.add_assoc _ _ _))⟩))))
                go_roundg k1
                case measure => have := HK1.out; omega
                case rel => exact ⟨(wrap64 (x7_1 + (wrap64 ((wrap64 (a0_4)) * a2_1)))), (1 + 1), (by first | rfl | (simp; done) | (simp [*]; done)), (by first | rfl | (simp; done) | (simp [*]; done)), H', ⟨by have := HK1.out; omega⟩, ⟨by (with_reducible repeat (first | refine blk_drewN ?_ _ | refine blk_drew ?_ | refine blk_alloc ?_ _)); exact BK200.out⟩, ⟨by (with_reducible repeat (first | refine blk_drewN ?_ _ | refine blk_drew ?_ | refine blk_alloc ?_ _)); exact BK201.out⟩, ⟨by repeat (first | (with_reducible first | exact HB.out | apply below_alloc | apply pw_below_drewN | apply below_drew1 | refine below_set ?_ GE200.out | refine below_set ?_ GE201.out) | exact HB.out)⟩⟩
              · rw [if_neg c31] at H
                clear c31
                by_cases c35 : t204 = 2
                · rw [if_pos c35] at H
                  subst c35
                  have H' := Aside0.mk H
                  clear H
                  have hnb36 := NB200_201.out
                  have hnc36 := NB201_200.out
                  have hcz37_0 : wr.cell? ⟨gb200, 0, none⟩ = some (.int .i64 a0_0) := (blk_cell BK200.out 0).trans rfl
                  have hcz37_1 : wr.cell? ⟨gb200, 1, none⟩ = some (.int .i64 a0_1) := (blk_cell BK200.out 1).trans rfl
                  have hcz37_2 : wr.cell? ⟨gb200, 2, none⟩ = some (.int .u8 a0_2) := (blk_cell BK200.out 2).trans rfl
                  have hcz37_3 : wr.cell? ⟨gb200, 3, none⟩ = some (.int .u8 a0_3) := (blk_cell BK200.out 3).trans rfl
                  have hcz37_4 : wr.cell? ⟨gb200, 4, none⟩ = some (.int .u8 a0_4) := (blk_cell BK200.out 4).trans rfl
                  have hcz37_5 : wr.cell? ⟨gb200, 5, none⟩ = some (.int .u8 a0_5) := (blk_cell BK200.out 5).trans rfl
                  have hcz37_6 : wr.cell? ⟨gb200, 6, none⟩ = some (.int .u8 a0_6) := (blk_cell BK200.out 6).trans rfl
                  have hfz37_0 := blk_frozen BK200.out 0
                  have hfz37_1 := blk_frozen BK200.out 1
                  have hfz37_2 := blk_frozen BK200.out 2
                  have hfz37_3 := blk_frozen BK200.out 3
                  have hfz37_4 := blk_frozen BK200.out 4
                  have hfz37_5 := blk_frozen BK200.out 5
                  have hfz37_6 := blk_frozen BK200.out 6
                  have hcz38_0 : wr.cell? ⟨gb201, 0, none⟩ = some (.int .i64 a2_0) := (blk_cell BK201.out 0).trans rfl
                  have hcz38_1 : wr.cell? ⟨gb201, 1, none⟩ = some (.int .i64 a2_1) := (blk_cell BK201.out 1).trans rfl
                  have hcz38_2 : wr.cell? ⟨gb201, 2, none⟩ = some (.int .i64 a2_2) := (blk_cell BK201.out 2).trans rfl
                  have hcz38_3 : wr.cell? ⟨gb201, 3, none⟩ = some (.int .i64 a2_3) := (blk_cell BK201.out 3).trans rfl
                  have hfz38_0 := blk_frozen BK201.out 0
                  have hfz38_1 := blk_frozen BK201.out 1
                  have hfz38_2 := blk_frozen BK201.out 2
                  have hfz38_3 := blk_frozen BK201.out 3
                  go_wp2_with (first | (go_at_call 30; (with_reducible refine (shuttleref10_Version.calls k1 1 a1 2 _ A26.out).mono ?_); rintro e w' ⟨rfl, ⟨nd, rfl⟩⟩; (try first | exact ⟨rfl, _, World.drewN_drewN _ _ _⟩ | exact ⟨rfl, _, Eq.trans (World.drewN_drewN _ _ _) (congrArg (World.drewN _) (Nat.add_assoc _ _ _))⟩)))
                  repeat ((with_reducible refine gate_quiet ?_); go_quiet (first | (go_at_call 30; (with_reducible refine (shuttleref10_Version.calls k1 1 a1 2 _ A26.out).mono ?_); rintro e w' ⟨rfl, ⟨nd, rfl⟩⟩; (try first | exact ⟨rfl, _, World.drewN_drewN _ _ _⟩ | exact ⟨rfl, _, Eq.trans (World.drewN_drewN _ _ _) (congrArg (World.drewN _) (Nat.add_assoc _ _ _))⟩))); try go_wp2_with (first | (go_at_call 30; (with_reducible refine (shuttleref10_Version.calls k1 1 a1 2 _ A26.out).mono ?_); rintro e w' ⟨rfl, ⟨nd, rfl⟩⟩; (try first | exact ⟨rfl, _, World.drewN_drewN _ _ _⟩ | exact ⟨rfl, _, Eq.trans (World.drewN_drewN _ _ _) (congrArg (World.drewN _) (Nat.add_assoc _ _ _))⟩))))
                  go_roundg k1
                  case measure => have := HK1.out; omega
                  case rel => exact ⟨(wrap64 (x7_1 + (wrap64 ((wrap64 (a0_4)) * a2_2)))), (1 + 1), (by first | rfl | (simp; done) | (simp [*]; done)), (by first | rfl | (simp; done) | (simp [*]; done)), H', ⟨by have := HK1.out; omega⟩, ⟨by (with_reducible repeat (first | refine blk_drewN ?_ _ | refine blk_drew ?_ | refine blk_alloc ?_ _)); exact BK200.out⟩, ⟨by (with_reducible repeat (first | refine blk_drewN ?_ _ | refine blk_drew ?_ | refine blk_alloc ?_ _)); exact BK201.out⟩, ⟨by repeat (first | (with_reducible first | exact HB.out | apply below_alloc | apply pw_below_drewN | apply below_drew1 | refine below_set ?_ GE200.out | refine below_set ?_ GE201.out) | exact HB.out)⟩⟩
                · rw [if_neg c35] at H
                  clear c35
                  by_cases c39 : t204 = 3
                  · rw [if_pos c39] at H
                    subst c39
                    have H' := Aside0.mk H
                    clear H
                    have hnb40 := NB200_201.out
                    have hnc40 := NB201_200.out
                    have hcz41_0 : wr.cell? ⟨gb200, 0, none⟩ = some (.int .i64 a0_0) := (blk_cell BK200.out 0).trans rfl
                    have hcz41_1 : wr.cell? ⟨gb200, 1, none⟩ = some (.int .i64 a0_1) := (blk_cell BK200.out 1).trans rfl
                    have hcz41_2 : wr.cell? ⟨gb200, 2, none⟩ = some (.int .u8 a0_2) := (blk_cell BK200.out 2).trans rfl
                    have hcz41_3 : wr.cell? ⟨gb200, 3, none⟩ = some (.int .u8 a0_3) := (blk_cell BK200.out 3).trans rfl
                    have hcz41_4 : wr.cell? ⟨gb200, 4, none⟩ = some (.int .u8 a0_4) := (blk_cell BK200.out 4).trans rfl
                    have hcz41_5 : wr.cell? ⟨gb200, 5, none⟩ = some (.int .u8 a0_5) := (blk_cell BK200.out 5).trans rfl
                    have hcz41_6 : wr.cell? ⟨gb200, 6, none⟩ = some (.int .u8 a0_6) := (blk_cell BK200.out 6).trans rfl
                    have hfz41_0 := blk_frozen BK200.out 0
                    have hfz41_1 := blk_frozen BK200.out 1
                    have hfz41_2 := blk_frozen BK200.out 2
                    have hfz41_3 := blk_frozen BK200.out 3
                    have hfz41_4 := blk_frozen BK200.out 4
                    have hfz41_5 := blk_frozen BK200.out 5
                    have hfz41_6 := blk_frozen BK200.out 6
                    have hcz42_0 : wr.cell? ⟨gb201, 0, none⟩ = some (.int .i64 a2_0) := (blk_cell BK201.out 0).trans rfl
                    have hcz42_1 : wr.cell? ⟨gb201, 1, none⟩ = some (.int .i64 a2_1) := (blk_cell BK201.out 1).trans rfl
                    have hcz42_2 : wr.cell? ⟨gb201, 2, none⟩ = some (.int .i64 a2_2) := (blk_cell BK201.out 2).trans rfl
                    have hcz42_3 : wr.cell? ⟨gb201, 3, none⟩ = some (.int .i64 a2_3) := (blk_cell BK201.out 3).trans rfl
                    have hfz42_0 := blk_frozen BK201.out 0
                    have hfz42_1 := blk_frozen BK201.out 1
                    have hfz42_2 := blk_frozen BK201.out 2
                    have hfz42_3 := blk_frozen BK201.out 3
                    go_wp2_with (first | (go_at_call 30; (with_reducible refine (shuttleref10_Version.calls k1 1 a1 3 _ A26.out).mono ?_); rintro e w' ⟨rfl, ⟨nd, rfl⟩⟩; (try first | exact ⟨rfl, _, World.drewN_drewN _ _ _⟩ | exact ⟨rfl, _, Eq.trans (World.drewN_drewN _ _ _) (congrArg (World.drewN _) (Nat.add_assoc _ _ _))⟩)))
                    repeat ((with_reducible refine gate_quiet ?_); go_quiet (first | (go_at_call 30; (with_reducible refine (shuttleref10_Version.calls k1 1 a1 3 _ A26.out).mono ?_); rintro e w' ⟨rfl, ⟨nd, rfl⟩⟩; (try first | exact ⟨rfl, _, World.drewN_drewN _ _ _⟩ | exact ⟨rfl, _, Eq.trans (World.drewN_drewN _ _ _) (congrArg (World.drewN _) (Nat.add_assoc _ _ _))⟩))); try go_wp2_with (first | (go_at_call 30; (with_reducible refine (shuttleref10_Version.calls k1 1 a1 3 _ A26.out).mono ?_); rintro e w' ⟨rfl, ⟨nd, rfl⟩⟩; (try first | exact ⟨rfl, _, World.drewN_drewN _ _ _⟩ | exact ⟨rfl, _, Eq.trans (World.drewN_drewN _ _ _) (congrArg (World.drewN _) (Nat.add_assoc _ _ _))⟩))))
                    go_roundg k1
                    case measure => have := HK1.out; omega
                    case rel => exact ⟨(wrap64 (x7_1 + (wrap64 ((wrap64 (a0_4)) * a2_3)))), (1 + 1), (by first | rfl | (simp; done) | (simp [*]; done)), (by first | rfl | (simp; done) | (simp [*]; done)), H', ⟨by have := HK1.out; omega⟩, ⟨by (with_reducible repeat (first | refine blk_drewN ?_ _ | refine blk_drew ?_ | refine blk_alloc ?_ _)); exact BK200.out⟩, ⟨by (with_reducible repeat (first | refine blk_drewN ?_ _ | refine blk_drew ?_ | refine blk_alloc ?_ _)); exact BK201.out⟩, ⟨by repeat (first | (with_reducible first | exact HB.out | apply below_alloc | apply pw_below_drewN | apply below_drew1 | refine below_set ?_ GE200.out | refine below_set ?_ GE201.out) | exact HB.out)⟩⟩
                  · rw [if_neg c39] at H
                    clear c39
                    exact absurd H (by simp)
          · rw [if_neg c25] at H
            clear c25
            by_cases c43 : x8_1 = 2
            · rw [if_pos c43] at H
              subst c43
              replace H := Option.bind_eq_some_iff.mp H
              obtain ⟨t203, A440, H⟩ := H
              replace H : (if t203 = 0 then (shuttleref12_weigh.l0 k1 a1 (wrap64 (x7_1 + (wrap64 ((wrap64 (a0_5)) * a2_0)))) (2 + 1) a0_0 a0_1 a0_2 a0_3 a0_4 a0_5 a0_6 a2_0 a2_1 a2_2 a2_3) else (if t203 = 1 then (shuttleref12_weigh.l0 k1 a1 (wrap64 (x7_1 + (wrap64 ((wrap64 (a0_5)) * a2_1)))) (2 + 1) a0_0 a0_1 a0_2 a0_3 a0_4 a0_5 a0_6 a2_0 a2_1 a2_2 a2_3) else (if t203 = 2 then (shuttleref12_weigh.l0 k1 a1 (wrap64 (x7_1 + (wrap64 ((wrap64 (a0_5)) * a2_2)))) (2 + 1) a0_0 a0_1 a0_2 a0_3 a0_4 a0_5 a0_6 a2_0 a2_1 a2_2 a2_3) else (if t203 = 3 then (shuttleref12_weigh.l0 k1 a1 (wrap64 (x7_1 + (wrap64 ((wrap64 (a0_5)) * a2_3)))) (2 + 1) a0_0 a0_1 a0_2 a0_3 a0_4 a0_5 a0_6 a2_0 a2_1 a2_2 a2_3) else (none))))) = some r := H
              have A44 := Aside0.mk A440
              clear A440
              by_cases c45 : t203 = 0
              · rw [if_pos c45] at H
                subst c45
                have H' := Aside0.mk H
                clear H
                have hnb46 := NB200_201.out
                have hnc46 := NB201_200.out
                have hcz47_0 : wr.cell? ⟨gb200, 0, none⟩ = some (.int .i64 a0_0) := (blk_cell BK200.out 0).trans rfl
                have hcz47_1 : wr.cell? ⟨gb200, 1, none⟩ = some (.int .i64 a0_1) := (blk_cell BK200.out 1).trans rfl
                have hcz47_2 : wr.cell? ⟨gb200, 2, none⟩ = some (.int .u8 a0_2) := (blk_cell BK200.out 2).trans rfl
                have hcz47_3 : wr.cell? ⟨gb200, 3, none⟩ = some (.int .u8 a0_3) := (blk_cell BK200.out 3).trans rfl
                have hcz47_4 : wr.cell? ⟨gb200, 4, none⟩ = some (.int .u8 a0_4) := (blk_cell BK200.out 4).trans rfl
                have hcz47_5 : wr.cell? ⟨gb200, 5, none⟩ = some (.int .u8 a0_5) := (blk_cell BK200.out 5).trans rfl
                have hcz47_6 : wr.cell? ⟨gb200, 6, none⟩ = some (.int .u8 a0_6) := (blk_cell BK200.out 6).trans rfl
                have hfz47_0 := blk_frozen BK200.out 0
                have hfz47_1 := blk_frozen BK200.out 1
                have hfz47_2 := blk_frozen BK200.out 2
                have hfz47_3 := blk_frozen BK200.out 3
                have hfz47_4 := blk_frozen BK200.out 4
                have hfz47_5 := blk_frozen BK200.out 5
                have hfz47_6 := blk_frozen BK200.out 6
                have hcz48_0 : wr.cell? ⟨gb201, 0, none⟩ = some (.int .i64 a2_0) := (blk_cell BK201.out 0).trans rfl
                have hcz48_1 : wr.cell? ⟨gb201, 1, none⟩ = some (.int .i64 a2_1) := (blk_cell BK201.out 1).trans rfl
                have hcz48_2 : wr.cell? ⟨gb201, 2, none⟩ = some (.int .i64 a2_2) := (blk_cell BK201.out 2).trans rfl
                have hcz48_3 : wr.cell? ⟨gb201, 3, none⟩ = some (.int .i64 a2_3) := (blk_cell BK201.out 3).trans rfl
                have hfz48_0 := blk_frozen BK201.out 0
                have hfz48_1 := blk_frozen BK201.out 1
                have hfz48_2 := blk_frozen BK201.out 2
                have hfz48_3 := blk_frozen BK201.out 3
                go_wp2_with (first | (go_at_call 30; (with_reducible refine (shuttleref10_Version.calls k1 2 a1 0 _ A44.out).mono ?_); rintro e w' ⟨rfl, ⟨nd, rfl⟩⟩; (try first | exact ⟨rfl, _, World.drewN_drewN _ _ _⟩ | exact ⟨rfl, _, Eq.trans (World.drewN_drewN _ _ _) (congrArg (World.drewN _) (Nat.add_assoc _ _ _))⟩)))
                repeat ((with_reducible refine gate_quiet ?_); go_quiet (first | (go_at_call 30; (with_reducible refine (shuttleref10_Version.calls k1 2 a1 0 _ A44.out).mono ?_); rintro e w' ⟨rfl, ⟨nd, rfl⟩⟩; (try first | exact ⟨rfl, _, World.drewN_drewN _ _ _⟩ | exact ⟨rfl, _, Eq.trans (World.drewN_drewN _ _ _) (congrArg (World.drewN _) (Nat.add_assoc _ _ _))⟩))); try go_wp2_with (first | (go_at_call 30; (with_reducible refine (shuttleref10_Version.calls k1 2 a1 0 _ A44.out).mono ?_); rintro e w' ⟨rfl, ⟨nd, rfl⟩⟩; (try first | exact ⟨rfl, _, World.drewN_drewN _ _ _⟩ | exact ⟨rfl, _, Eq.trans (World.drewN_drewN _ _ _) (congrArg (World.drewN _) (Nat.add_assoc _ _ _))⟩))))
                go_roundg k1
                case measure => have := HK1.out; omega
                case rel => exact ⟨(wrap64 (x7_1 + (wrap64 ((wrap64 (a0_5)) * a2_0)))), (2 + 1), (by first | rfl | (simp; done) | (simp [*]; done)), (by first | rfl | (simp; done) | (simp [*]; done)), H', ⟨by have := HK1.out; omega⟩, ⟨by (with_reducible repeat (first | refine blk_drewN ?_ _ | refine blk_drew ?_ | refine blk_alloc ?_ _)); exact BK200.out⟩, ⟨by (with_reducible repeat (first | refine blk_drewN ?_ _ | refine blk_drew ?_ | refine blk_alloc ?_ _)); exact BK201.out⟩, ⟨by repeat (first | (with_reducible first | exact HB.out | apply below_alloc | apply pw_below_drewN | apply below_drew1 | refine below_set ?_ GE200.out | refine below_set ?_ GE201.out) | exact HB.out)⟩⟩
              · rw [if_neg c45] at H
                clear c45
                by_cases c49 : t203 = 1
                · rw [if_pos c49] at H
                  subst c49
                  have H' := Aside0.mk H
                  clear H
                  have hnb50 := NB200_201.out
                  have hnc50 := NB201_200.out
                  have hcz51_0 : wr.cell? ⟨gb200, 0, none⟩ = some (.int .i64 a0_0) := (blk_cell BK200.out 0).trans rfl
                  have hcz51_1 : wr.cell? ⟨gb200, 1, none⟩ = some (.int .i64 a0_1) := (blk_cell BK200.out 1).trans rfl
                  have hcz51_2 : wr.cell? ⟨gb200, 2, none⟩ = some (.int .u8 a0_2) := (blk_cell BK200.out 2).trans rfl
                  have hcz51_3 : wr.cell? ⟨gb200, 3, none⟩ = some (.int .u8 a0_3) := (blk_cell BK200.out 3).trans rfl
                  have hcz51_4 : wr.cell? ⟨gb200, 4, none⟩ = some (.int .u8 a0_4) := (blk_cell BK200.out 4).trans rfl
                  have hcz51_5 : wr.cell? ⟨gb200, 5, none⟩ = some (.int .u8 a0_5) := (blk_cell BK200.out 5).trans rfl
                  have hcz51_6 : wr.cell? ⟨gb200, 6, none⟩ = some (.int .u8 a0_6) := (blk_cell BK200.out 6).trans rfl
                  have hfz51_0 := blk_frozen BK200.out 0
                  have hfz51_1 := blk_frozen BK200.out 1
                  have hfz51_2 := blk_frozen BK200.out 2
                  have hfz51_3 := blk_frozen BK200.out 3
                  have hfz51_4 := blk_frozen BK200.out 4
                  have hfz51_5 := blk_frozen BK200.out 5
                  have hfz51_6 := blk_frozen BK200.out 6
                  have hcz52_0 : wr.cell? ⟨gb201, 0, none⟩ = some (.int .i64 a2_0) := (blk_cell BK201.out 0).trans rfl
                  have hcz52_1 : wr.cell? ⟨gb201, 1, none⟩ = some (.int .i64 a2_1) := (blk_cell BK201.out 1).trans rfl
                  have hcz52_2 : wr.cell? ⟨gb201, 2, none⟩ = some (.int .i64 a2_2) := (blk_cell BK201.out 2).trans rfl
                  have hcz52_3 : wr.cell? ⟨gb201, 3, none⟩ = some (.int .i64 a2_3) := (blk_cell BK201.out 3).trans rfl
                  have hfz52_0 := blk_frozen BK201.out 0
                  have hfz52_1 := blk_frozen BK201.out 1
                  have hfz52_2 := blk_frozen BK201.out 2
                  have hfz52_3 := blk_frozen BK201.out 3
                  go_wp2_with (first | (go_at_call 30; (with_reducible refine (shuttleref10_Version.calls k1 2 a1 1 _ A44.out).mono ?_); rintro e w' ⟨rfl, ⟨nd, rfl⟩⟩; (try first | exact ⟨rfl, _, World.drewN_drewN _ _ _⟩ | exact ⟨rfl, _, Eq.trans (World.drewN_drewN _ _ _) (congrArg (World.drewN _) (Nat.add_assoc _ _ _))⟩)))
                  repeat ((with_reducible refine gate_quiet ?_); go_quiet (first | (go_at_call 30; (with_reducible refine (shuttleref10_Version.calls k1 2 a1 1 _ A44.out).mono ?_); rintro e w' ⟨rfl, ⟨nd, rfl⟩⟩; (try first | exact ⟨rfl, _, World.drewN_drewN _ _ _⟩ | exact ⟨rfl, _, Eq.trans (World.drewN_drewN _ _ _) (congrArg (World.drewN _) (Nat.add_assoc _ _ _))⟩))); try go_wp2_with (first | (go_at_call 30; (with_reducible refine (shuttleref10_Version.calls k1 2 a1 1 _ A44.out).mono ?_); rintro e w' ⟨rfl, ⟨nd, rfl⟩⟩; (try first | exact ⟨rfl, _, World.drewN_drewN _ _ _⟩ | exact ⟨rfl, _, Eq.trans (World.drewN_drewN _ _ _) (congrArg (World.drewN _) (Nat.add_assoc _ _ _))⟩))))
                  go_roundg k1
                  case measure => have := HK1.out; omega
                  case rel => exact ⟨(wrap64 (x7_1 + (wrap64 ((wrap64 (a0_5)) * a2_1)))), (2 + 1), (by first | rfl | (simp; done) | (simp [*]; done)), (by first | rfl | (simp; done) | (simp [*]; done)), H', ⟨by have := HK1.out; omega⟩, ⟨by (with_reducible repeat (first | refine blk_drewN ?_ _ | refine blk_drew ?_ | refine blk_alloc ?_ _)); exact BK200.out⟩, ⟨by (with_reducible repeat (first | refine blk_drewN ?_ _ | refine blk_drew ?_ | refine blk_alloc ?_ _)); exact BK201.out⟩, ⟨by repeat (first | (with_reducible first | exact HB.out | apply below_alloc | apply pw_below_drewN | apply below_drew1 | refine below_set ?_ GE200.out | refine below_set ?_ GE201.out) | exact HB.out)⟩⟩
                · rw [if_neg c49] at H
                  clear c49
                  by_cases c53 : t203 = 2
                  · rw [if_pos c53] at H
                    subst c53
                    have H' := Aside0.mk H
                    clear H
                    have hnb54 := NB200_201.out
                    have hnc54 := NB201_200.out
                    have hcz55_0 : wr.cell? ⟨gb200, 0, none⟩ = some (.int .i64 a0_0) := (blk_cell BK200.out 0).trans rfl
                    have hcz55_1 : wr.cell? ⟨gb200, 1, none⟩ = some (.int .i64 a0_1) := (blk_cell BK200.out 1).trans rfl
                    have hcz55_2 : wr.cell? ⟨gb200, 2, none⟩ = some (.int .u8 a0_2) := (blk_cell BK200.out 2).trans rfl
                    have hcz55_3 : wr.cell? ⟨gb200, 3, none⟩ = some (.int .u8 a0_3) := (blk_cell BK200.out 3).trans rfl
                    have hcz55_4 : wr.cell? ⟨gb200, 4, none⟩ = some (.int .u8 a0_4) := (blk_cell BK200.out 4).trans rfl
                    have hcz55_5 : wr.cell? ⟨gb200, 5, none⟩ = some (.int .u8 a0_5) := (blk_cell BK200.out 5).trans rfl
                    have hcz55_6 : wr.cell? ⟨gb200, 6, none⟩ = some (.int .u8 a0_6) := (blk_cell BK200.out 6).trans rfl
                    have hfz55_0 := blk_frozen BK200.out 0
                    have hfz55_1 := blk_frozen BK200.out 1
                    have hfz55_2 := blk_frozen BK200.out 2
                    have hfz55_3 := blk_frozen BK200.out 3
                    have hfz55_4 := blk_frozen BK200.out 4
                    have hfz55_5 := blk_frozen BK200.out 5
                    have hfz55_6 := blk_frozen BK200.out 6
                    have hcz56_0 : wr.cell? ⟨gb201, 0, none⟩ = some (.int .i64 a2_0) := (blk_cell BK201.out 0).trans rfl
                    have hcz56_1 : wr.cell? ⟨gb201, 1, none⟩ = some (.int .i64 a2_1) := (blk_cell BK201.out 1).trans rfl
                    have hcz56_2 : wr.cell? ⟨gb201, 2, none⟩ = some (.int .i64 a2_2) := (blk_cell BK201.out 2).trans rfl
                    have hcz56_3 : wr.cell? ⟨gb201, 3, none⟩ = some (.int .i64 a2_3) := (blk_cell BK201.out 3).trans rfl
                    have hfz56_0 := blk_frozen BK201.out 0
                    have hfz56_1 := blk_frozen BK201.out 1
                    have hfz56_2 := blk_frozen BK201.out 2
                    have hfz56_3 := blk_frozen BK201.out 3
                    go_wp2_with (first | (go_at_call 30; (with_reducible refine (shuttleref10_Version.calls k1 2 a1 2 _ A44.out).mono ?_); rintro e w' ⟨rfl, ⟨nd, rfl⟩⟩; (try first | exact ⟨rfl, _, World.drewN_drewN _ _ _⟩ | exact ⟨rfl, _, Eq.trans (World.drewN_drewN _ _ _) (congrArg (World.drewN _) (Nat.add_assoc _ _ _))⟩)))
                    repeat ((with_reducible refine gate_quiet ?_); go_quiet (first | (go_at_call 30; (with_reducible refine (shuttleref10_Version.calls k1 2 a1 2 _ A44.out).mono ?_); rintro e w' ⟨rfl, ⟨nd, rfl⟩⟩; (try first | exact ⟨rfl, _, World.drewN_drewN _ _ _⟩ | exact ⟨rfl, _, Eq.trans (World.drewN_drewN _ _ _) (congrArg (World.drewN _) (Nat.add_assoc _ _ _))⟩))); try go_wp2_with (first | (go_at_call 30; (with_reducible refine (shuttleref10_Version.calls k1 2 a1 2 _ A44.out).mono ?_); rintro e w' ⟨rfl, ⟨nd, rfl⟩⟩; (try first | exact ⟨rfl, _, World.drewN_drewN _ _ _⟩ | exact ⟨rfl, _, Eq.trans (World.drewN_drewN _ _ _) (congrArg (World.drewN _) (Nat.add_assoc _ _ _))⟩))))
                    go_roundg k1
                    case measure => have := HK1.out; omega
                    case rel => exact ⟨(wrap64 (x7_1 + (wrap64 ((wrap64 (a0_5)) * a2_2)))), (2 + 1), (by first | rfl | (simp; done) | (simp [*]; done)), (by first | rfl | (simp; done) | (simp [*]; done)), H', ⟨by have := HK1.out; omega⟩, ⟨by (with_reducible repeat (first | refine blk_drewN ?_ _ | refine blk_drew ?_ | refine blk_alloc ?_ _)); exact BK200.out⟩, ⟨by (with_reducible repeat (first | refine blk_drewN ?_ _ | refine blk_drew ?_ | refine blk_alloc ?_ _)); exact BK201.out⟩, ⟨by repeat (first | (with_reducible first | exact HB.out | apply below_alloc | apply pw_below_drewN | apply below_drew1 | refine below_set ?_ GE200.out | refine below_set ?_ GE201.out) | exact HB.out)⟩⟩
                  · rw [if_neg c53] at H
                    clear c53
                    by_cases c57 : t203 = 3
                    · rw [if_pos c57] at H
                      subst c57
                      have H' := Aside0.mk H
                      clear H
                      have hnb58 := NB200_201.out
                      have hnc58 := NB201_200.out
                      have hcz59_0 : wr.cell? ⟨gb200, 0, none⟩ = some (.int .i64 a0_0) := (blk_cell BK200.out 0).trans rfl
                      have hcz59_1 : wr.cell? ⟨gb200, 1, none⟩ = some (.int .i64 a0_1) := (blk_cell BK200.out 1).trans rfl
                      have hcz59_2 : wr.cell? ⟨gb200, 2, none⟩ = some (.int .u8 a0_2) := (blk_cell BK200.out 2).trans rfl
                      have hcz59_3 : wr.cell? ⟨gb200, 3, none⟩ = some (.int .u8 a0_3) := (blk_cell BK200.out 3).trans rfl
                      have hcz59_4 : wr.cell? ⟨gb200, 4, none⟩ = some (.int .u8 a0_4) := (blk_cell BK200.out 4).trans rfl
                      have hcz59_5 : wr.cell? ⟨gb200, 5, none⟩ = some (.int .u8 a0_5) := (blk_cell BK200.out 5).trans rfl
                      have hcz59_6 : wr.cell? ⟨gb200, 6, none⟩ = some (.int .u8 a0_6) := (blk_cell BK200.out 6).trans rfl
                      have hfz59_0 := blk_frozen BK200.out 0
                      have hfz59_1 := blk_frozen BK200.out 1
                      have hfz59_2 := blk_frozen BK200.out 2
                      have hfz59_3 := blk_frozen BK200.out 3
                      have hfz59_4 := blk_frozen BK200.out 4
                      have hfz59_5 := blk_frozen BK200.out 5
                      have hfz59_6 := blk_frozen BK200.out 6
                      have hcz60_0 : wr.cell? ⟨gb201, 0, none⟩ = some (.int .i64 a2_0) := (blk_cell BK201.out 0).trans rfl
                      have hcz60_1 : wr.cell? ⟨gb201, 1, none⟩ = some (.int .i64 a2_1) := (blk_cell BK201.out 1).trans rfl
                      have hcz60_2 : wr.cell? ⟨gb201, 2, none⟩ = some (.int .i64 a2_2) := (blk_cell BK201.out 2).trans rfl
                      have hcz60_3 : wr.cell? ⟨gb201, 3, none⟩ = some (.int .i64 a2_3) := (blk_cell BK201.out 3).trans rfl
                      have hfz60_0 := blk_frozen BK201.out 0
                      have hfz60_1 := blk_frozen BK201.out 1
                      have hfz60_2 := blk_frozen BK201.out 2
                      have hfz60_3 := blk_frozen BK201.out 3
                      go_wp2_with (first | (go_at_call 30; (with_reducible refine (shuttleref10_Version.calls k1 2 a1 3 _ A44.out).mono ?_); rintro e w' ⟨rfl, ⟨nd, rfl⟩⟩; (try first | exact ⟨rfl, _, World.drewN_drewN _ _ _⟩ | exact ⟨rfl, _, Eq.trans (World.drewN_drewN _ _ _) (congrArg (World.drewN _) (Nat.add_assoc _ _ _))⟩)))
                      repeat ((with_reducible refine gate_quiet ?_); go_quiet (first | (go_at_call 30; (with_reducible refine (shuttleref10_Version.calls k1 2 a1 3 _ A44.out).mono ?_); rintro e w' ⟨rfl, ⟨nd, rfl⟩⟩; (try first | exact ⟨rfl, _, World.drewN_drewN _ _ _⟩ | exact ⟨rfl, _, Eq.trans (World.drewN_drewN _ _ _) (congrArg (World.drewN _) (Nat.add_assoc _ _ _))⟩))); try go_wp2_with (first | (go_at_call 30; (with_reducible refine (shuttleref10_Version.calls k1 2 a1 3 _ A44.out).mono ?_); rintro e w' ⟨rfl, ⟨nd, rfl⟩⟩; (try first | exact ⟨rfl, _, World.drewN_drewN _ _ _⟩ | exact ⟨rfl, _, Eq.trans (World.drewN_drewN _ _ _) (congrArg (World.drewN _) (Nat.add_assoc _ _ _))⟩))))
                      go_roundg k1
                      case measure => have := HK1.out; omega
                      case rel => exact ⟨(wrap64 (x7_1 + (wrap64 ((wrap64 (a0_5)) * a2_3)))), (2 + 1), (by first | rfl | (simp; done) | (simp [*]; done)), (by first | rfl | (simp; done) | (simp [*]; done)), H', ⟨by have := HK1.out; omega⟩, ⟨by (with_reducible repeat (first | refine blk_drewN ?_ _ | refine blk_drew ?_ | refine blk_alloc ?_ _)); exact BK200.out⟩, ⟨by (with_reducible repeat (first | refine blk_drewN ?_ _ | refine blk_drew ?_ | refine blk_alloc ?_ _)); exact BK201.out⟩, ⟨by repeat (first | (with_reducible first | exact HB.out | apply below_alloc | apply pw_below_drewN | apply below_drew1 | refine below_set ?_ GE200.out | refine below_set ?_ GE201.out) | exact HB.out)⟩⟩
                    · rw [if_neg c57] at H
                      clear c57
                      exact absurd H (by simp)
            · rw [if_neg c43] at H
              clear c43
              by_cases c61 : x8_1 = 3
              · rw [if_pos c61] at H
                subst c61
                replace H := Option.bind_eq_some_iff.mp H
                obtain ⟨t202, A620, H⟩ := H
                replace H : (if t202 = 0 then (shuttleref12_weigh.l0 k1 a1 (wrap64 (x7_1 + (wrap64 ((wrap64 (a0_6)) * a2_0)))) (3 + 1) a0_0 a0_1 a0_2 a0_3 a0_4 a0_5 a0_6 a2_0 a2_1 a2_2 a2_3) else (if t202 = 1 then (shuttleref12_weigh.l0 k1 a1 (wrap64 (x7_1 + (wrap64 ((wrap64 (a0_6)) * a2_1)))) (3 + 1) a0_0 a0_1 a0_2 a0_3 a0_4 a0_5 a0_6 a2_0 a2_1 a2_2 a2_3) else (if t202 = 2 then (shuttleref12_weigh.l0 k1 a1 (wrap64 (x7_1 + (wrap64 ((wrap64 (a0_6)) * a2_2)))) (3 + 1) a0_0 a0_1 a0_2 a0_3 a0_4 a0_5 a0_6 a2_0 a2_1 a2_2 a2_3) else (if t202 = 3 then (shuttleref12_weigh.l0 k1 a1 (wrap64 (x7_1 + (wrap64 ((wrap64 (a0_6)) * a2_3)))) (3 + 1) a0_0 a0_1 a0_2 a0_3 a0_4 a0_5 a0_6 a2_0 a2_1 a2_2 a2_3) else (none))))) = some r := H
                have A62 := Aside0.mk A620
                clear A620
                by_cases c63 : t202 = 0
                · rw [if_pos c63] at H
                  subst c63
                  have H' := Aside0.mk H
                  clear H
                  have hnb64 := NB200_201.out
                  have hnc64 := NB201_200.out
                  have hcz65_0 : wr.cell? ⟨gb200, 0, none⟩ = some (.int .i64 a0_0) := (blk_cell BK200.out 0).trans rfl
                  have hcz65_1 : wr.cell? ⟨gb200, 1, none⟩ = some (.int .i64 a0_1) := (blk_cell BK200.out 1).trans rfl
                  have hcz65_2 : wr.cell? ⟨gb200, 2, none⟩ = some (.int .u8 a0_2) := (blk_cell BK200.out 2).trans rfl
                  have hcz65_3 : wr.cell? ⟨gb200, 3, none⟩ = some (.int .u8 a0_3) := (blk_cell BK200.out 3).trans rfl
                  have hcz65_4 : wr.cell? ⟨gb200, 4, none⟩ = some (.int .u8 a0_4) := (blk_cell BK200.out 4).trans rfl
                  have hcz65_5 : wr.cell? ⟨gb200, 5, none⟩ = some (.int .u8 a0_5) := (blk_cell BK200.out 5).trans rfl
                  have hcz65_6 : wr.cell? ⟨gb200, 6, none⟩ = some (.int .u8 a0_6) := (blk_cell BK200.out 6).trans rfl
                  have hfz65_0 := blk_frozen BK200.out 0
                  have hfz65_1 := blk_frozen BK200.out 1
                  have hfz65_2 := blk_frozen BK200.out 2
                  have hfz65_3 := blk_frozen BK200.out 3
                  have hfz65_4 := blk_frozen BK200.out 4
                  have hfz65_5 := blk_frozen BK200.out 5
                  have hfz65_6 := blk_frozen BK200.out 6
                  have hcz66_0 : wr.cell? ⟨gb201, 0, none⟩ = some (.int .i64 a2_0) := (blk_cell BK201.out 0).trans rfl
                  have hcz66_1 : wr.cell? ⟨gb201, 1, none⟩ = some (.int .i64 a2_1) := (blk_cell BK201.out 1).trans rfl
                  have hcz66_2 : wr.cell? ⟨gb201, 2, none⟩ = some (.int .i64 a2_2) := (blk_cell BK201.out 2).trans rfl
                  have hcz66_3 : wr.cell? ⟨gb201, 3, none⟩ = some (.int .i64 a2_3) := (blk_cell BK201.out 3).trans rfl
                  have hfz66_0 := blk_frozen BK201.out 0
                  have hfz66_1 := blk_frozen BK201.out 1
                  have hfz66_2 := blk_frozen BK201.out 2
                  have hfz66_3 := blk_frozen BK201.out 3
                  go_wp2_with (first | (go_at_call 30; (with_reducible refine (shuttleref10_Version.calls k1 3 a1 0 _ A62.out).mono ?_); rintro e w' ⟨rfl, ⟨nd, rfl⟩⟩; (try first | exact ⟨rfl, _, World.drewN_drewN _ _ _⟩ | exact ⟨rfl, _, Eq.trans (World.drewN_drewN _ _ _) (congrArg (World.drewN _) (Nat.add_assoc _ _ _))⟩)))
                  repeat ((with_reducible refine gate_quiet ?_); go_quiet (first | (go_at_call 30; (with_reducible refine (shuttleref10_Version.calls k1 3 a1 0 _ A62.out).mono ?_); rintro e w' ⟨rfl, ⟨nd, rfl⟩⟩; (try first | exact ⟨rfl, _, World.drewN_drewN _ _ _⟩ | exact ⟨rfl, _, Eq.trans (World.drewN_drewN _ _ _) (congrArg (World.drewN _) (Nat.add_assoc _ _ _))⟩))); try go_wp2_with (first | (go_at_call 30; (with_reducible refine (shuttleref10_Version.calls k1 3 a1 0 _ A62.out).mono ?_); rintro e w' ⟨rfl, ⟨nd, rfl⟩⟩; (try first | exact ⟨rfl, _, World.drewN_drewN _ _ _⟩ | exact ⟨rfl, _, Eq.trans (World.drewN_drewN _ _ _) (congrArg (World.drewN _) (Nat.add_assoc _ _ _))⟩))))
                  go_roundg k1
                  case measure => have := HK1.out; omega
                  case rel => exact ⟨(wrap64 (x7_1 + (wrap64 ((wrap64 (a0_6)) * a2_0)))), (3 + 1), (by first | rfl | (simp; done) | (simp [*]; done)), (by first | rfl | (simp; done) | (simp [*]; done)), H', ⟨by have := HK1.out; omega⟩, ⟨by (with_reducible repeat (first | refine blk_drewN ?_ _ | refine blk_drew ?_ | refine blk_alloc ?_ _)); exact BK200.out⟩, ⟨by (with_reducible repeat (first | refine blk_drewN ?_ _ | refine blk_drew ?_ | refine blk_alloc ?_ _)); exact BK201.out⟩, ⟨by repeat (first | (with_reducible first | exact HB.out | apply below_alloc | apply pw_below_drewN | apply below_drew1 | refine below_set ?_ GE200.out | refine below_set ?_ GE201.out) | exact HB.out)⟩⟩
                · rw [if_neg c63] at H
                  clear c63
                  by_cases c67 : t202 = 1
                  · rw [if_pos c67] at H
                    subst c67
                    have H' := Aside0.mk H
                    clear H
                    have hnb68 := NB200_201.out
                    have hnc68 := NB201_200.out
                    have hcz69_0 : wr.cell? ⟨gb200, 0, none⟩ = some (.int .i64 a0_0) := (blk_cell BK200.out 0).trans rfl
                    have hcz69_1 : wr.cell? ⟨gb200, 1, none⟩ = some (.int .i64 a0_1) := (blk_cell BK200.out 1).trans rfl
                    have hcz69_2 : wr.cell? ⟨gb200, 2, none⟩ = some (.int .u8 a0_2) := (blk_cell BK200.out 2).trans rfl
                    have hcz69_3 : wr.cell? ⟨gb200, 3, none⟩ = some (.int .u8 a0_3) := (blk_cell BK200.out 3).trans rfl
                    have hcz69_4 : wr.cell? ⟨gb200, 4, none⟩ = some (.int .u8 a0_4) := (blk_cell BK200.out 4).trans rfl
                    have hcz69_5 : wr.cell? ⟨gb200, 5, none⟩ = some (.int .u8 a0_5) := (blk_cell BK200.out 5).trans rfl
                    have hcz69_6 : wr.cell? ⟨gb200, 6, none⟩ = some (.int .u8 a0_6) := (blk_cell BK200.out 6).trans rfl
                    have hfz69_0 := blk_frozen BK200.out 0
                    have hfz69_1 := blk_frozen BK200.out 1
                    have hfz69_2 := blk_frozen BK200.out 2
                    have hfz69_3 := blk_frozen BK200.out 3
                    have hfz69_4 := blk_frozen BK200.out 4
                    have hfz69_5 := blk_frozen BK200.out 5
                    have hfz69_6 := blk_frozen BK200.out 6
                    have hcz70_0 : wr.cell? ⟨gb201, 0, none⟩ = some (.int .i64 a2_0) := (blk_cell BK201.out 0).trans rfl
                    have hcz70_1 : wr.cell? ⟨gb201, 1, none⟩ = some (.int .i64 a2_1) := (blk_cell BK201.out 1).trans rfl
                    have hcz70_2 : wr.cell? ⟨gb201, 2, none⟩ = some (.int .i64 a2_2) := (blk_cell BK201.out 2).trans rfl
                    have hcz70_3 : wr.cell? ⟨gb201, 3, none⟩ = some (.int .i64 a2_3) := (blk_cell BK201.out 3).trans rfl
                    have hfz70_0 := blk_frozen BK201.out 0
                    have hfz70_1 := blk_frozen BK201.out 1
                    have hfz70_2 := blk_frozen BK201.out 2
                    have hfz70_3 := blk_frozen BK201.out 3
                    go_wp2_with (first | (go_at_call 30; (with_reducible refine (shuttleref10_Version.calls k1 3 a1 1 _ A62.out).mono ?_); rintro e w' ⟨rfl, ⟨nd, rfl⟩⟩; (try first | exact ⟨rfl, _, World.drewN_drewN _ _ _⟩ | exact ⟨rfl, _, Eq.trans (World.drewN_drewN _ _ _) (congrArg (World.drewN _) (Nat.add_assoc _ _ _))⟩)))
                    repeat ((with_reducible refine gate_quiet ?_); go_quiet (first | (go_at_call 30; (with_reducible refine (shuttleref10_Version.calls k1 3 a1 1 _ A62.out).mono ?_); rintro e w' ⟨rfl, ⟨nd, rfl⟩⟩; (try first | exact ⟨rfl, _, World.drewN_drewN _ _ _⟩ | exact ⟨rfl, _, Eq.trans (World.drewN_drewN _ _ _) (congrArg (World.drewN _) (Nat.add_assoc _ _ _))⟩))); try go_wp2_with (first | (go_at_call 30; (with_reducible refine (shuttleref10_Version.calls k1 3 a1 1 _ A62.out).mono ?_); rintro e w' ⟨rfl, ⟨nd, rfl⟩⟩; (try first | exact ⟨rfl, _, World.drewN_drewN _ _ _⟩ | exact ⟨rfl, _, Eq.trans (World.drewN_drewN _ _ _) (congrArg (World.drewN _) (Nat.add_assoc _ _ _))⟩))))
                    go_roundg k1
                    case measure => have := HK1.out; omega
                    case rel => exact ⟨(wrap64 (x7_1 + (wrap64 ((wrap64 (a0_6)) * a2_1)))), (3 + 1), (by first | rfl | (simp; done) | (simp [*]; done)), (by first | rfl | (simp; done) | (simp [*]; done)), H', ⟨by have := HK1.out; omega⟩, ⟨by (with_reducible repeat (first | refine blk_drewN ?_ _ | refine blk_drew ?_ | refine blk_alloc ?_ _)); exact BK200.out⟩, ⟨by (with_reducible repeat (first | refine blk_drewN ?_ _ | refine blk_drew ?_ | refine blk_alloc ?_ _)); exact BK201.out⟩, ⟨by repeat (first | (with_reducible first | exact HB.out | apply below_alloc | apply pw_below_drewN | apply below_drew1 | refine below_set ?_ GE200.out | refine below_set ?_ GE201.out) | exact HB.out)⟩⟩
                  · rw [if_neg c67] at H
                    clear c67
                    by_cases c71 : t202 = 2
                    · rw [if_pos c71] at H
                      subst c71
                      have H' := Aside0.mk H
                      clear H
                      have hnb72 := NB200_201.out
                      have hnc72 := NB201_200.out
                      have hcz73_0 : wr.cell? ⟨gb200, 0, none⟩ = some (.int .i64 a0_0) := (blk_cell BK200.out 0).trans rfl
                      have hcz73_1 : wr.cell? ⟨gb200, 1, none⟩ = some (.int .i64 a0_1) := (blk_cell BK200.out 1).trans rfl
                      have hcz73_2 : wr.cell? ⟨gb200, 2, none⟩ = some (.int .u8 a0_2) := (blk_cell BK200.out 2).trans rfl
                      have hcz73_3 : wr.cell? ⟨gb200, 3, none⟩ = some (.int .u8 a0_3) := (blk_cell BK200.out 3).trans rfl
                      have hcz73_4 : wr.cell? ⟨gb200, 4, none⟩ = some (.int .u8 a0_4) := (blk_cell BK200.out 4).trans rfl
                      have hcz73_5 : wr.cell? ⟨gb200, 5, none⟩ = some (.int .u8 a0_5) := (blk_cell BK200.out 5).trans rfl
                      have hcz73_6 : wr.cell? ⟨gb200, 6, none⟩ = some (.int .u8 a0_6) := (blk_cell BK200.out 6).trans rfl
                      have hfz73_0 := blk_frozen BK200.out 0
                      have hfz73_1 := blk_frozen BK200.out 1
                      have hfz73_2 := blk_frozen BK200.out 2
                      have hfz73_3 := blk_frozen BK200.out 3
                      have hfz73_4 := blk_frozen BK200.out 4
                      have hfz73_5 := blk_frozen BK200.out 5
                      have hfz73_6 := blk_frozen BK200.out 6
                      have hcz74_0 : wr.cell? ⟨gb201, 0, none⟩ = some (.int .i64 a2_0) := (blk_cell BK201.out 0).trans rfl
                      have hcz74_1 : wr.cell? ⟨gb201, 1, none⟩ = some (.int .i64 a2_1) := (blk_cell BK201.out 1).trans rfl
                      have hcz74_2 : wr.cell? ⟨gb201, 2, none⟩ = some (.int .i64 a2_2) := (blk_cell BK201.out 2).trans rfl
                      have hcz74_3 : wr.cell? ⟨gb201, 3, none⟩ = some (.int .i64 a2_3) := (blk_cell BK201.out 3).trans rfl
                      have hfz74_0 := blk_frozen BK201.out 0
                      have hfz74_1 := blk_frozen BK201.out 1
                      have hfz74_2 := blk_frozen BK201.out 2
                      have hfz74_3 := blk_frozen BK201.out 3
                      go_wp2_with (first | (go_at_call 30; (with_reducible refine (shuttleref10_Version.calls k1 3 a1 2 _ A62.out).mono ?_); rintro e w' ⟨rfl, ⟨nd, rfl⟩⟩; (try first | exact ⟨rfl, _, World.drewN_drewN _ _ _⟩ | exact ⟨rfl, _, Eq.trans (World.drewN_drewN _ _ _) (congrArg (World.drewN _) (Nat.add_assoc _ _ _))⟩)))
                      repeat ((with_reducible refine gate_quiet ?_); go_quiet (first | (go_at_call 30; (with_reducible refine (shuttleref10_Version.calls k1 3 a1 2 _ A62.out).mono ?_); rintro e w' ⟨rfl, ⟨nd, rfl⟩⟩; (try first | exact ⟨rfl, _, World.drewN_drewN _ _ _⟩ | exact ⟨rfl, _, Eq.trans (World.drewN_drewN _ _ _) (congrArg (World.drewN _) (Nat.add_assoc _ _ _))⟩))); try go_wp2_with (first | (go_at_call 30; (with_reducible refine (shuttleref10_Version.calls k1 3 a1 2 _ A62.out).mono ?_); rintro e w' ⟨rfl, ⟨nd, rfl⟩⟩; (try first | exact ⟨rfl, _, World.drewN_drewN _ _ _⟩ | exact ⟨rfl, _, Eq.trans (World.drewN_drewN _ _ _) (congrArg (World.drewN _) (Nat.add_assoc _ _ _))⟩))))
                      go_roundg k1
                      case measure => have := HK1.out; omega
                      case rel => exact ⟨(wrap64 (x7_1 + (wrap64 ((wrap64 (a0_6)) * a2_2)))), (3 + 1), (by first | rfl | (simp; done) | (simp [*]; done)), (by first | rfl | (simp; done) | (simp [*]; done)), H', ⟨by have := HK1.out; omega⟩, ⟨by (with_reducible repeat (first | refine blk_drewN ?_ _ | refine blk_drew ?_ | refine blk_alloc ?_ _)); exact BK200.out⟩, ⟨by (with_reducible repeat (first | refine blk_drewN ?_ _ | refine blk_drew ?_ | refine blk_alloc ?_ _)); exact BK201.out⟩, ⟨by repeat (first | (with_reducible first | exact HB.out | apply below_alloc | apply pw_below_drewN | apply below_drew1 | refine below_set ?_ GE200.out | refine below_set ?_ GE201.out) | exact HB.out)⟩⟩
                    · rw [if_neg c71] at H
                      clear c71
                      by_cases c75 : t202 = 3
                      · rw [if_pos c75] at H
                        subst c75
                        have H' := Aside0.mk H
                        clear H
                        have hnb76 := NB200_201.out
                        have hnc76 := NB201_200.out
                        have hcz77_0 : wr.cell? ⟨gb200, 0, none⟩ = some (.int .i64 a0_0) := (blk_cell BK200.out 0).trans rfl
                        have hcz77_1 : wr.cell? ⟨gb200, 1, none⟩ = some (.int .i64 a0_1) := (blk_cell BK200.out 1).trans rfl
                        have hcz77_2 : wr.cell? ⟨gb200, 2, none⟩ = some (.int .u8 a0_2) := (blk_cell BK200.out 2).trans rfl
                        have hcz77_3 : wr.cell? ⟨gb200, 3, none⟩ = some (.int .u8 a0_3) := (blk_cell BK200.out 3).trans rfl
                        have hcz77_4 : wr.cell? ⟨gb200, 4, none⟩ = some (.int .u8 a0_4) := (blk_cell BK200.out 4).trans rfl
                        have hcz77_5 : wr.cell? ⟨gb200, 5, none⟩ = some (.int .u8 a0_5) := (blk_cell BK200.out 5).trans rfl
                        have hcz77_6 : wr.cell? ⟨gb200, 6, none⟩ = some (.int .u8 a0_6) := (blk_cell BK200.out 6).trans rfl
                        have hfz77_0 := blk_frozen BK200.out 0
                        have hfz77_1 := blk_frozen BK200.out 1
                        have hfz77_2 := blk_frozen BK200.out 2
                        have hfz77_3 := blk_frozen BK200.out 3
                        have hfz77_4 := blk_frozen BK200.out 4
                        have hfz77_5 := blk_frozen BK200.out 5
                        have hfz77_6 := blk_frozen BK200.out 6
                        have hcz78_0 : wr.cell? ⟨gb201, 0, none⟩ = some (.int .i64 a2_0) := (blk_cell BK201.out 0).trans rfl
                        have hcz78_1 : wr.cell? ⟨gb201, 1, none⟩ = some (.int .i64 a2_1) := (blk_cell BK201.out 1).trans rfl
                        have hcz78_2 : wr.cell? ⟨gb201, 2, none⟩ = some (.int .i64 a2_2) := (blk_cell BK201.out 2).trans rfl
                        have hcz78_3 : wr.cell? ⟨gb201, 3, none⟩ = some (.int .i64 a2_3) := (blk_cell BK201.out 3).trans rfl
                        have hfz78_0 := blk_frozen BK201.out 0
                        have hfz78_1 := blk_frozen BK201.out 1
                        have hfz78_2 := blk_frozen BK201.out 2
                        have hfz78_3 := blk_frozen BK201.out 3
                        go_wp2_with (first | (go_at_call 30; (with_reducible refine (shuttleref10_Version.calls k1 3 a1 3 _ A62.out).mono ?_); rintro e w' ⟨rfl, ⟨nd, rfl⟩⟩; (try first | exact ⟨rfl, _, World.drewN_drewN _ _ _⟩ | exact ⟨rfl, _, Eq.trans (World.drewN_drewN _ _ _) (congrArg (World.drewN _) (Nat.add_assoc _ _ _))⟩)))
                        repeat ((with_reducible refine gate_quiet ?_); go_quiet (first | (go_at_call 30; (with_reducible refine (shuttleref10_Version.calls k1 3 a1 3 _ A62.out).mono ?_); rintro e w' ⟨rfl, ⟨nd, rfl⟩⟩; (try first | exact ⟨rfl, _, World.drewN_drewN _ _ _⟩ | exact ⟨rfl, _, Eq.trans (World.drewN_drewN _ _ _) (congrArg (World.drewN _) (Nat.add_assoc _ _ _))⟩))); try go_wp2_with (first | (go_at_call 30; (with_reducible refine (shuttleref10_Version.calls k1 3 a1 3 _ A62.out).mono ?_); rintro e w' ⟨rfl, ⟨nd, rfl⟩⟩; (try first | exact ⟨rfl, _, World.drewN_drewN _ _ _⟩ | exact ⟨rfl, _, Eq.trans (World.drewN_drewN _ _ _) (congrArg (World.drewN _) (Nat.add_assoc _ _ _))⟩))))
                        go_roundg k1
                        case measure => have := HK1.out; omega
                        case rel => exact ⟨(wrap64 (x7_1 + (wrap64 ((wrap64 (a0_6)) * a2_3)))), (3 + 1), (by first | rfl | (simp; done) | (simp [*]; done)), (by first | rfl | (simp; done) | (simp [*]; done)), H', ⟨by have := HK1.out; omega⟩, ⟨by (with_reducible repeat (first | refine blk_drewN ?_ _ | refine blk_drew ?_ | refine blk_alloc ?_ _)); exact BK200.out⟩, ⟨by (with_reducible repeat (first | refine blk_drewN ?_ _ | refine blk_drew ?_ | refine blk_alloc ?_ _)); exact BK201.out⟩, ⟨by repeat (first | (with_reducible first | exact HB.out | apply below_alloc | apply pw_below_drewN | apply below_drew1 | refine below_set ?_ GE200.out | refine below_set ?_ GE201.out) | exact HB.out)⟩⟩
                      · rw [if_neg c75] at H
                        clear c75
                        exact absurd H (by simp)
              · rw [if_neg c61] at H
                clear c61
                exact absurd H (by simp)
      · rw [if_neg c6] at H
        have c6b0 : decide (x8_1 < 4) = false := decide_eq_false c6
        clear c6
        obtain rfl := Option.some.inj H
        go_wp2
        repeat ((with_reducible refine gate_quiet ?_); go_quiet (fail); try go_wp2)
        go_ret
        exact ⟨by first | rfl | (simp [errW_none, errW_some] <;> rfl) | (simp [*, errW_none, errW_some] <;> rfl), by repeat (first | (with_reducible first | exact HB.out | apply below_alloc | apply pw_below_drewN | apply below_drew1 | refine below_set ?_ GE200.out | refine below_set ?_ GE201.out) | exact HB.out)⟩

end Go.Proofs.YtijpnlmejphfhaaDoor.P

-- YtijpnlmejphfhaaDoorPSRef1
namespace Go.Proofs.YtijpnlmejphfhaaDoor.P
open Go Go.Proofs Go.RowKit Go.Proofs.YtijpnlmejphfhaaDoorW.PrintWords Go.Proofs.YtijpnlmejphfhaaDoorW.PrintLast Go.Proofs.YtijpnlmejphfhaaDoorW.PrintMore
set_option linter.unusedVariables false
set_option linter.unusedSimpArgs false

def stepIs (s i : Nat) : Bool :=
  match shuttleref07_Step.f 20 (s : Int) (i : Int) with
  | some (r1, r2, r3, r4, r5, r6, r7) => decide (r1 = (s : Int)) && decide (r2 = ((dst s i : Nat) : Int)) && decide (r3 = (i : Int)) && decide (r4 = ob s i 0) && decide (r5 = ob s i 1) && decide (r6 = ob s i 2) && decide (r7 = ob s i 3)
  | none => false
theorem step_all : (List.range 64).all (fun s => (List.range 2).all fun i => stepIs s i) = true := by decide +kernel
theorem rstep_f (s i : Nat) (hs : s < 64) (hi : i < 2) : shuttleref07_Step.f 20 (s : Int) (i : Int) = some ((s : Int), ((dst s i : Nat) : Int), (i : Int), ob s i 0, ob s i 1, ob s i 2, ob s i 3) := by
  have h := List.all_eq_true.1 (List.all_eq_true.1 step_all s (List.mem_range.2 hs)) i (List.mem_range.2 hi)
  unfold stepIs at h
  split at h
  · rename_i r1 r2 r3 r4 r5 r6 r7 e
    simp only [Bool.and_eq_true, decide_eq_true_eq] at h
    obtain ⟨⟨⟨⟨⟨⟨rfl, rfl⟩, rfl⟩, rfl⟩, rfl⟩, rfl⟩, rfl⟩ := h
    exact e
  · cases h
variable {a b c d : Int}
theorem wOf_at2 {α : Type} (v : Nat) (hv : v < 4) (K : Int → Option α) : (if ((v : Nat) : Int) = 0 then K a else if ((v : Nat) : Int) = 1 then K b else if ((v : Nat) : Int) = 2 then K c else if ((v : Nat) : Int) = 3 then K d else none) = K (wOf a b c d v) := by
  obtain rfl | rfl | rfl | rfl : v = 0 ∨ v = 1 ∨ v = 2 ∨ v = 3 := by omega
  · rfl
  · rfl
  · rfl
  · rfl
theorem wl0_0 (hW : ∀ v, v < 4 → 0 ≤ wOf a b c d v ∧ wOf a b c d v ≤ 7) (k : Nat) (hk : 9 ≤ k) (t : Nat) (ht : t < 40) (n fr dt i o0 o1 o2 o3 : Int) (ho : o0 = 0 ∨ o0 = 1) (hn : 0 ≤ n ∧ n ≤ 100) :
    shuttleref12_weigh.l0 (k + 1) (t : Int) n 0 fr dt i o0 o1 o2 o3 a b c d = shuttleref12_weigh.l0 k (t : Int) (n + o0 * wOf a b c d (ver 0 t)) 1 fr dt i o0 o1 o2 o3 a b c d := by
  have hv := hW _ (ver_lt 0 t)
  have hb := bw_ (z := n) ho hv (by rcases ho with e | e <;> rw [e] <;> omega)
  have hr : shuttleref10_Version.f k 0 (t : Int) = some ((ver 0 t : Nat) : Int) := rversion_f 0 t (by decide) ht k hk
  rw [shuttleref12_weigh.l0.eq_2, if_pos (by decide), if_pos rfl]
  rw [hr]
  simp only [Option.bind_some]
  refine (wOf_at2 (a := a) (b := b) (c := c) (d := d) (ver 0 t) (ver_lt 0 t) (fun z => shuttleref12_weigh.l0 k (t : Int) (wrap64 (n + wrap64 (wrap64 o0 * z))) 1 fr dt i o0 o1 o2 o3 a b c d)).trans ?_
  rw [hb]
theorem wl0_1 (hW : ∀ v, v < 4 → 0 ≤ wOf a b c d v ∧ wOf a b c d v ≤ 7) (k : Nat) (hk : 9 ≤ k) (t : Nat) (ht : t < 40) (n fr dt i o0 o1 o2 o3 : Int) (ho : o1 = 0 ∨ o1 = 1) (hn : 0 ≤ n ∧ n ≤ 100) :
    shuttleref12_weigh.l0 (k + 1) (t : Int) n 1 fr dt i o0 o1 o2 o3 a b c d = shuttleref12_weigh.l0 k (t : Int) (n + o1 * wOf a b c d (ver 1 t)) 2 fr dt i o0 o1 o2 o3 a b c d := by
  have hv := hW _ (ver_lt 1 t)
  have hb := bw_ (z := n) ho hv (by rcases ho with e | e <;> rw [e] <;> omega)
  have hr : shuttleref10_Version.f k 1 (t : Int) = some ((ver 1 t : Nat) : Int) := rversion_f 1 t (by decide) ht k hk
  rw [shuttleref12_weigh.l0.eq_2, if_pos (by decide), if_neg (by decide), if_pos rfl]
  rw [hr]
  simp only [Option.bind_some]
  refine (wOf_at2 (a := a) (b := b) (c := c) (d := d) (ver 1 t) (ver_lt 1 t) (fun z => shuttleref12_weigh.l0 k (t : Int) (wrap64 (n + wrap64 (wrap64 o1 * z))) 2 fr dt i o0 o1 o2 o3 a b c d)).trans ?_
  rw [hb]
theorem wl0_2 (hW : ∀ v, v < 4 → 0 ≤ wOf a b c d v ∧ wOf a b c d v ≤ 7) (k : Nat) (hk : 9 ≤ k) (t : Nat) (ht : t < 40) (n fr dt i o0 o1 o2 o3 : Int) (ho : o2 = 0 ∨ o2 = 1) (hn : 0 ≤ n ∧ n ≤ 100) :
    shuttleref12_weigh.l0 (k + 1) (t : Int) n 2 fr dt i o0 o1 o2 o3 a b c d = shuttleref12_weigh.l0 k (t : Int) (n + o2 * wOf a b c d (ver 2 t)) 3 fr dt i o0 o1 o2 o3 a b c d := by
  have hv := hW _ (ver_lt 2 t)
  have hb := bw_ (z := n) ho hv (by rcases ho with e | e <;> rw [e] <;> omega)
  have hr : shuttleref10_Version.f k 2 (t : Int) = some ((ver 2 t : Nat) : Int) := rversion_f 2 t (by decide) ht k hk
  rw [shuttleref12_weigh.l0.eq_2, if_pos (by decide), if_neg (by decide), if_neg (by decide), if_pos rfl]
  rw [hr]
  simp only [Option.bind_some]
  refine (wOf_at2 (a := a) (b := b) (c := c) (d := d) (ver 2 t) (ver_lt 2 t) (fun z => shuttleref12_weigh.l0 k (t : Int) (wrap64 (n + wrap64 (wrap64 o2 * z))) 3 fr dt i o0 o1 o2 o3 a b c d)).trans ?_
  rw [hb]
theorem wl0_3 (hW : ∀ v, v < 4 → 0 ≤ wOf a b c d v ∧ wOf a b c d v ≤ 7) (k : Nat) (hk : 9 ≤ k) (t : Nat) (ht : t < 40) (n fr dt i o0 o1 o2 o3 : Int) (ho : o3 = 0 ∨ o3 = 1) (hn : 0 ≤ n ∧ n ≤ 100) :
    shuttleref12_weigh.l0 (k + 1) (t : Int) n 3 fr dt i o0 o1 o2 o3 a b c d = shuttleref12_weigh.l0 k (t : Int) (n + o3 * wOf a b c d (ver 3 t)) 4 fr dt i o0 o1 o2 o3 a b c d := by
  have hv := hW _ (ver_lt 3 t)
  have hb := bw_ (z := n) ho hv (by rcases ho with e | e <;> rw [e] <;> omega)
  have hr : shuttleref10_Version.f k 3 (t : Int) = some ((ver 3 t : Nat) : Int) := rversion_f 3 t (by decide) ht k hk
  rw [shuttleref12_weigh.l0.eq_2, if_pos (by decide), if_neg (by decide), if_neg (by decide), if_neg (by decide), if_pos rfl]
  rw [hr]
  simp only [Option.bind_some]
  refine (wOf_at2 (a := a) (b := b) (c := c) (d := d) (ver 3 t) (ver_lt 3 t) (fun z => shuttleref12_weigh.l0 k (t : Int) (wrap64 (n + wrap64 (wrap64 o3 * z))) 4 fr dt i o0 o1 o2 o3 a b c d)).trans ?_
  rw [hb]
theorem rweigh_f (hW : ∀ v, v < 4 → 0 ≤ wOf a b c d v ∧ wOf a b c d v ≤ 7) (t : Nat) (ht : t < 40) (fr dt i o0 o1 o2 o3 : Int) (ho : ∀ j, o4 o0 o1 o2 o3 j = 0 ∨ o4 o0 o1 o2 o3 j = 1) :
    shuttleref12_weigh.f 14 fr dt i o0 o1 o2 o3 (t : Int) a b c d = some (wsum (wOf a b c d) (o4 o0 o1 o2 o3) t 4) := by
  have h := fun j => wsum_in hW ho t j
  have h0 := h 0; have h1 := h 1; have h2 := h 2; have h3 := h 3
  unfold shuttleref12_weigh.f
  rw [wl0_0 hW 13 (by decide) t ht 0 fr dt i o0 o1 o2 o3 (ho 0) (by omega)]
  show shuttleref12_weigh.l0 13 (t : Int) (wsum (wOf a b c d) (o4 o0 o1 o2 o3) t 1) 1 fr dt i o0 o1 o2 o3 a b c d = _
  rw [wl0_1 hW 12 (by decide) t ht _ fr dt i o0 o1 o2 o3 (ho 1) (by omega)]
  show shuttleref12_weigh.l0 12 (t : Int) (wsum (wOf a b c d) (o4 o0 o1 o2 o3) t 2) 2 fr dt i o0 o1 o2 o3 a b c d = _
  rw [wl0_2 hW 11 (by decide) t ht _ fr dt i o0 o1 o2 o3 (ho 2) (by omega)]
  show shuttleref12_weigh.l0 11 (t : Int) (wsum (wOf a b c d) (o4 o0 o1 o2 o3) t 3) 3 fr dt i o0 o1 o2 o3 a b c d = _
  rw [wl0_3 hW 10 (by decide) t ht _ fr dt i o0 o1 o2 o3 (ho 3) (by omega)]
  show shuttleref12_weigh.l0 10 (t : Int) (wsum (wOf a b c d) (o4 o0 o1 o2 o3) t 4) 4 fr dt i o0 o1 o2 o3 a b c d = _
  rw [shuttleref12_weigh.l0.eq_2, if_neg (by decide)]
theorem rweigh_calls (hW : ∀ v, v < 4 → 0 ≤ wOf a b c d v ∧ wOf a b c d v ≤ 7) (s i t : Nat) (ht : t < 4) (fr dt ii : Int) (w : World) :
    Calls Tryd.prog 32 #[.agg #[.int .i64 fr, .int .i64 dt, .int .u8 ii, .int .u8 (ob s i 0), .int .u8 (ob s i 1), .int .u8 (ob s i 2), .int .u8 (ob s i 3)], .int .i64 (t : Int), .agg #[.int .i64 a, .int .i64 b, .int .i64 c, .int .i64 d]] w fun e w' =>
      e = .returned (.int .i64 (ew (wOf a b c d) s i t)) ∧ Below w.heap.size w w' :=
  shuttleref12_weigh.calls 14 _ _ _ _ _ _ _ _ _ _ _ _ _ w (rweigh_f hW t (by omega) fr dt ii _ _ _ _ (o4_ob s i))
end Go.Proofs.YtijpnlmejphfhaaDoor.P

-- YtijpnlmejphfhaaDoorPSRefP
namespace Go.Proofs.YtijpnlmejphfhaaDoor.P
open Go Go.Proofs Go.RowKit Go.Proofs.YtijpnlmejphfhaaDoorW.PrintWords Go.Proofs.YtijpnlmejphfhaaDoorW.PrintLast Go.Proofs.YtijpnlmejphfhaaDoorW.PrintMore
set_option linter.unusedVariables false
set_option linter.unusedSimpArgs false

/-- The step behind a step, modulo four. -/
def nx (t : Nat) : Nat := (t + 1) % 4
theorem nx_lt (t : Nat) : nx t < 4 := Nat.mod_lt _ (by decide)
theorem nx_e (t : Nat) : ((t : Int) + 1) % 4 = (nx t : Int) := by unfold nx; omega
theorem nx_t (t : Nat) : Int.tmod ((t : Int) + 1) 4 = (nx t : Int) := by rw [Int.tmod_eq_emod_of_nonneg (by omega)]; exact nx_e t
theorem nx_w (t : Nat) (h : t < 4) : Int.tmod (wrap64 ((t : Int) + 1)) 4 = (nx t : Int) := by rw [wrap_small (by omega) (by omega)]; exact nx_t t
/-- A way from state 0, by a first edge of bit 1: where it ends, at which step (modulo four), its weight. -/
inductive Way (W : Nat → Int) : Nat → Nat → Nat → Prop
  | first (t : Nat) (h : t < 4) : Way W 32 (nx t) (en W 0 1 t)
  | next (s t x i : Nat) (h : Way W s t x) (hs : s ≠ 0) (hi : i < 2) : Way W (dst s i) (nx t) (x + en W s i t)
/-- The least weight of a detour. -/
def IsLeast (W : Nat → Int) (n : Nat) : Prop := (∃ t, Way W 0 t n) ∧ ∀ t x, Way W 0 t x → n ≤ x
theorem IsLeast.same {W : Nat → Int} {n m : Nat} (h : IsLeast W n) (k : IsLeast W m) : n = m := by
  obtain ⟨t, ht⟩ := h.1
  obtain ⟨u, hu⟩ := k.1
  have h1 := k.2 t n ht
  have h2 := h.2 u m hu
  omega
theorem Way.lt {W : Nat → Int} {s t x : Nat} (h : Way W s t x) : s < 64 ∧ t < 4 := by
  induction h with
  | first t h => exact ⟨by decide, nx_lt t⟩
  | next s t x i h hs hi ih => exact ⟨by unfold dst; omega, nx_lt t⟩
theorem ew_nat {W : Nat → Int} (hW : ∀ v, v < 4 → 0 ≤ W v ∧ W v ≤ 7) (s i t : Nat) : ew W s i t = (en W s i t : Int) := by unfold en; have := (ew_in hW s i t).1; omega
theorem en_le {W : Nat → Int} (hW : ∀ v, v < 4 → 0 ≤ W v ∧ W v ≤ 7) (s i t : Nat) : en W s i t ≤ 28 := by unfold en; have := ew_in hW s i t; omega
def far : Int := 1073741824
/-- How far places are, as far as is known: place (s, t) at 4 s + t. -/
structure LI (W : Nat → Int) (L : List Int) : Prop where
  len : L.length = 256
  val : ∀ s t, s < 64 → t < 4 → L.getD (4 * s + t) 0 = far ∨ ∃ x : Nat, L.getD (4 * s + t) 0 = (x : Int) ∧ (x : Int) < far ∧ Way W s t x
  zero : ∀ t, t < 4 → L.getD t 0 = far
theorem LI.le {W : Nat → Int} {L : List Int} (h : LI W L) (s t : Nat) (hs : s < 64) (ht : t < 4) : 0 ≤ L.getD (4 * s + t) 0 ∧ L.getD (4 * s + t) 0 ≤ far := by
  have hf : far = 1073741824 := rfl
  rcases h.val s t hs ht with e | ⟨x, e, hx, _⟩
  · rw [e]; omega
  · rw [e]; omega
theorem set_getD (L : List Int) (q j : Nat) (v : Int) (hq : q < L.length) : (L.set q v).getD j 0 = if j = q then v else L.getD j 0 := by
  rw [List.getD_eq_getElem?_getD, List.getElem?_set]
  by_cases e : q = j
  · subst e; rw [if_pos rfl, if_pos hq, if_pos rfl]; rfl
  · rw [if_neg e, if_neg (fun h => e h.symm), List.getD_eq_getElem?_getD]
theorem LI.put {W : Nat → Int} {L : List Int} (h : LI W L) (s t x : Nat) (hs : s ≠ 0) (hw : Way W s t x) (hx : (x : Int) < far) : LI W (L.set (4 * s + t) (x : Int)) := by
  have hst := hw.lt
  have hq : 4 * s + t < L.length := by rw [h.len]; omega
  refine ⟨by rw [List.length_set]; exact h.len, fun s' t' hs' ht' => ?_, fun t' ht' => ?_⟩
  · rw [set_getD _ _ _ _ hq]
    by_cases e : 4 * s' + t' = 4 * s + t
    · rw [if_pos e]
      have e1 : s' = s := by omega
      have e2 : t' = t := by omega
      subst e1; subst e2
      exact .inr ⟨x, rfl, hx, hw⟩
    · rw [if_neg e]; exact h.val s' t' hs' ht'
  · rw [set_getD _ _ _ _ hq, if_neg (by omega)]
    exact h.zero t' ht'
theorem LI.start (W : Nat → Int) (L : List Int) (hl : L.length = 256) (h : ∀ q, q < 256 → L.getD q 0 = far) : LI W L :=
  ⟨hl, fun s t hs ht => .inl (h _ (by omega)), fun t ht => h t (by omega)⟩
/-- No list's number is more than another one's. -/
def LeL (L L' : List Int) : Prop := ∀ q, L.getD q 0 ≤ L'.getD q 0
theorem LeL.refl (L : List Int) : LeL L L := fun _ => Int.le_refl _
theorem LeL.set (L : List Int) (q : Nat) (v : Int) (hq : q < L.length) (h : v ≤ L.getD q 0) : LeL (L.set q v) L := fun j => by
  rw [set_getD _ _ _ _ hq]
  by_cases e : j = q
  · rw [if_pos e, e]; exact h
  · rw [if_neg e]; exact Int.le_refl _
/-- Behind the first edges, up to step j. -/
def FI (W : Nat → Int) (L : List Int) (j : Nat) : Prop := ∀ t, t < j → L.getD (128 + nx t) 0 ≤ (en W 0 1 t : Int)
theorem FI.le {W : Nat → Int} {L L' : List Int} {j : Nat} (h : FI W L j) (k : LeL L' L) : FI W L' j := fun t ht => Int.le_trans (k _) (h t ht)
/-- A first edge looked at. -/
theorem first_put {W : Nat → Int} (hW : ∀ v, v < 4 → 0 ≤ W v ∧ W v ≤ 7) {L : List Int} {t : Nat} (ht : t < 4) (hL : LI W L) (hF : FI W L t) (v : Int) (hv : v = if ew W 0 1 t < L.getD (128 + nx t) 0 then ew W 0 1 t else L.getD (128 + nx t) 0) :
    LI W (L.set (128 + nx t) v) ∧ FI W (L.set (128 + nx t) v) (t + 1) := by
  have hq : 128 + nx t < L.length := by rw [hL.len]; have := nx_lt t; omega
  have he := ew_nat hW 0 1 t
  have hle := en_le hW 0 1 t
  have hf : far = 1073741824 := rfl
  have hvl : v ≤ L.getD (128 + nx t) 0 ∧ v ≤ ew W 0 1 t := by rw [hv]; split <;> omega
  have hlst := LeL.set L (128 + nx t) v hq hvl.1
  refine ⟨?_, fun t' ht' => ?_⟩
  · by_cases c : ew W 0 1 t < L.getD (128 + nx t) 0
    · rw [if_pos c] at hv
      rw [hv, he]
      exact hL.put 32 (nx t) _ (by decide) (.first t ht) (by omega)
    · rw [if_neg c] at hv
      have e : L.set (128 + nx t) v = L := by
        rw [hv]
        apply List.ext_getElem?
        intro q
        rw [List.getElem?_set]
        by_cases e : 128 + nx t = q
        · subst e
          rw [if_pos rfl, if_pos hq, List.getD_eq_getElem?_getD, List.getElem?_eq_getElem hq]; rfl
        · rw [if_neg e]
      rw [e]; exact hL
  · by_cases e : t' = t
    · subst e
      rw [set_getD _ _ _ _ hq, if_pos rfl, ← he]; exact hvl.2
    · exact Int.le_trans (hlst _) (hF t' (by omega))
/-- The best that is known. -/
def BI (W : Nat → Int) (b : Int) : Prop := b = far ∨ ∃ x t : Nat, b = (x : Int) ∧ (x : Int) < far ∧ Way W 0 t x
theorem BI.le {W : Nat → Int} {b : Int} (h : BI W b) : 0 ≤ b ∧ b ≤ far := by
  have hf : far = 1073741824 := rfl
  rcases h with rfl | ⟨x, t, rfl, hx, _⟩
  · omega
  · omega
/-- An edge that makes nothing shorter. -/
def Closed (W : Nat → Int) (L : List Int) (b : Int) (s t i : Nat) : Prop :=
  L.getD (4 * s + t) 0 = far ∨ if dst s i = 0 then b ≤ L.getD (4 * s + t) 0 + en W s i t else L.getD (4 * dst s i + nx t) 0 ≤ L.getD (4 * s + t) 0 + en W s i t
def ClosedTo (W : Nat → Int) (L : List Int) (b : Int) (n : Nat) : Prop := ∀ s t i, 1 ≤ s → s < 64 → t < 4 → i < 2 → 8 * s + 2 * t + i < n → Closed W L b s t i
def sumN (L : List Int) : Nat := (L.map Int.toNat).sum
theorem sumN_set : ∀ (L : List Int) (q : Nat) (v : Int), q < L.length → 0 ≤ v → v < L.getD q 0 → sumN (L.set q v) < sumN L
  | x :: L, 0, v, _, h0, h => by
    have h : v < x := h
    unfold sumN
    simp only [List.set_cons_zero, List.map_cons, List.sum_cons]
    omega
  | x :: L, q + 1, v, hq, h0, h => by
    have ih := sumN_set L q v (by simpa using hq) h0 h
    unfold sumN at *
    simp only [List.set_cons_succ, List.map_cons, List.sum_cons]
    omega
/-- A sweep, up to its n-th edge. -/
def SW (W : Nat → Int) (ch : Bool) (L0 L : List Int) (b : Int) (n : Nat) : Prop := (ch = true ∧ sumN L < sumN L0) ∨ (ch = false ∧ L = L0 ∧ ClosedTo W L b n)
/-- Places, firsts, best. -/
structure MI (W : Nat → Int) (L : List Int) (b : Int) : Prop where
  li : LI W L
  fi : FI W L 4
  bi : BI W b
theorem closed_mono {W : Nat → Int} {L : List Int} {b b' : Int} {s t i : Nat} (h : Closed W L b s t i) (hb : b' ≤ b) : Closed W L b' s t i := by
  rcases h with h | h
  · exact .inl h
  · refine .inr ?_
    split
    · rename_i e; rw [if_pos e] at h; omega
    · rename_i e; rw [if_neg e] at h; exact h
theorem ClosedTo.next {W : Nat → Int} {L : List Int} {b : Int} {s t i : Nat} (ht : t < 4) (hi : i < 2) (h : ClosedTo W L b (8 * s + 2 * t + i)) (k : Closed W L b s t i) : ClosedTo W L b (8 * s + 2 * t + (i + 1)) := by
  intro s' t' i' h1 h2 h3 h4 h5
  by_cases e : 8 * s' + 2 * t' + i' < 8 * s + 2 * t + i
  · exact h s' t' i' h1 h2 h3 h4 e
  · have e1 : s' = s := by omega
    have e2 : t' = t := by omega
    have e3 : i' = i := by omega
    subst e1; subst e2; subst e3
    exact k
/-- A place that isn't known: both its edges. -/
theorem SW.skip {W : Nat → Int} {ch : Bool} {L0 L : List Int} {b : Int} {s t : Nat} (ht : t < 4) (h : SW W ch L0 L b (8 * s + 2 * t)) (hf : L.getD (4 * s + t) 0 = far) : SW W ch L0 L b (8 * s + 2 * (t + 1)) := by
  rcases h with h | ⟨h1, h2, h3⟩
  · exact .inl h
  · refine .inr ⟨h1, h2, ?_⟩
    have k0 : ClosedTo W L b (8 * s + 2 * t + 0) := h3
    have k1 := k0.next ht (by decide) (.inl hf)
    exact k1.next ht (by decide) (.inl hf)
/-- An edge to state 0. -/
theorem sw_best {W : Nat → Int} (hW : ∀ v, v < 4 → 0 ≤ W v ∧ W v ≤ 7) {ch : Bool} {L0 L : List Int} {b : Int} {s t i : Nat} (hs1 : 1 ≤ s) (hs : s < 64) (ht : t < 4) (hi : i < 2) (hM : MI W L b) (h : SW W ch L0 L b (8 * s + 2 * t + i)) (hk : L.getD (4 * s + t) 0 < far) (hd : dst s i = 0)
    (b' : Int) (hb : b' = if L.getD (4 * s + t) 0 + ew W s i t < b then L.getD (4 * s + t) 0 + ew W s i t else b) : MI W L b' ∧ SW W ch L0 L b' (8 * s + 2 * t + (i + 1)) := by
  have he := ew_nat hW s i t
  have hbl := hM.bi.le
  have hle : b' ≤ b ∧ b' ≤ L.getD (4 * s + t) 0 + ew W s i t := by rw [hb]; split <;> omega
  refine ⟨⟨hM.li, hM.fi, ?_⟩, ?_⟩
  · by_cases c : L.getD (4 * s + t) 0 + ew W s i t < b
    · rw [if_pos c] at hb
      rcases hM.li.val s t hs ht with e | ⟨x, e, hx, hw⟩
      · omega
      · have hn := Way.next s t x i hw (by omega) hi
        rw [hd] at hn
        exact .inr ⟨x + en W s i t, nx t, by rw [hb, e, he]; omega, by omega, hn⟩
    · rw [if_neg c] at hb
      rw [hb]; exact hM.bi
  · rcases h with h | ⟨h1, h2, h3⟩
    · exact .inl h
    · refine .inr ⟨h1, h2, ?_⟩
      refine ClosedTo.next ht hi (fun s' t' i' a1 a2 a3 a4 a5 => closed_mono (h3 s' t' i' a1 a2 a3 a4 a5) hle.1) (.inr ?_)
      rw [if_pos hd, ← he]; exact hle.2
/-- An edge that makes nothing shorter. -/
theorem sw_keep {W : Nat → Int} (hW : ∀ v, v < 4 → 0 ≤ W v ∧ W v ≤ 7) {ch : Bool} {L0 L : List Int} {b : Int} {s t i : Nat} (ht : t < 4) (hi : i < 2) (h : SW W ch L0 L b (8 * s + 2 * t + i)) (hd : dst s i ≠ 0)
    (hn : ¬ L.getD (4 * s + t) 0 + ew W s i t < L.getD (4 * dst s i + nx t) 0) : SW W ch L0 L b (8 * s + 2 * t + (i + 1)) := by
  rcases h with h | ⟨h1, h2, h3⟩
  · exact .inl h
  · refine .inr ⟨h1, h2, ClosedTo.next ht hi h3 (.inr ?_)⟩
    rw [if_neg hd, ← ew_nat hW]; omega
/-- An edge that makes a place nearer. -/
theorem sw_put {W : Nat → Int} (hW : ∀ v, v < 4 → 0 ≤ W v ∧ W v ≤ 7) {ch : Bool} {L0 L : List Int} {b : Int} {s t i n : Nat} (hs1 : 1 ≤ s) (hs : s < 64) (ht : t < 4) (hi : i < 2) (hM : MI W L b) (h : SW W ch L0 L b n) (hk : L.getD (4 * s + t) 0 < far) (hd : dst s i ≠ 0)
    (hn : L.getD (4 * s + t) 0 + ew W s i t < L.getD (4 * dst s i + nx t) 0) (m : Nat) :
    MI W (L.set (4 * dst s i + nx t) (L.getD (4 * s + t) 0 + ew W s i t)) b ∧ SW W true L0 (L.set (4 * dst s i + nx t) (L.getD (4 * s + t) 0 + ew W s i t)) b m ∧ LeL (L.set (4 * dst s i + nx t) (L.getD (4 * s + t) 0 + ew W s i t)) L := by
  have he := ew_nat hW s i t
  have hdl : dst s i < 64 := by unfold dst; omega
  have hnx := nx_lt t
  have hq : 4 * dst s i + nx t < L.length := by rw [hM.li.len]; omega
  have hl := hM.li.le (dst s i) (nx t) hdl hnx
  have hl2 := hM.li.le s t hs ht
  have hle := LeL.set L (4 * dst s i + nx t) (L.getD (4 * s + t) 0 + ew W s i t) hq (by omega)
  have hsum := sumN_set L (4 * dst s i + nx t) (L.getD (4 * s + t) 0 + ew W s i t) hq (by omega) hn
  refine ⟨⟨?_, hM.fi.le hle, hM.bi⟩, .inl ⟨rfl, ?_⟩, hle⟩
  · rcases hM.li.val s t hs ht with e | ⟨x, e, hx, hw⟩
    · omega
    · have hw2 := Way.next s t x i hw (by omega) hi
      have e2 : L.getD (4 * s + t) 0 + ew W s i t = ((x + en W s i t : Nat) : Int) := by rw [e, he]; omega
      rw [e2]
      exact hM.li.put (dst s i) (nx t) _ hd hw2 (by omega)
  · rcases h with ⟨_, h⟩ | ⟨_, h, _⟩
    · omega
    · rw [← h]; exact hsum
/-- Seven edges back. -/
theorem some_way (W : Nat → Int) (hW : ∀ v, v < 4 → 0 ≤ W v ∧ W v ≤ 7) : ∃ t x, Way W 0 t x ∧ x ≤ 196 := by
  have h0 := Way.first (W := W) 0 (by decide)
  have h1 := Way.next _ _ _ 0 h0 (by decide) (by decide)
  have h2 := Way.next _ _ _ 0 h1 (by decide) (by decide)
  have h3 := Way.next _ _ _ 0 h2 (by decide) (by decide)
  have h4 := Way.next _ _ _ 0 h3 (by decide) (by decide)
  have h5 := Way.next _ _ _ 0 h4 (by decide) (by decide)
  have h6 := Way.next _ _ _ 0 h5 (by decide) (by decide)
  refine ⟨_, _, h6, ?_⟩
  have q := fun s i t => en_le hW s i t
  have q0 := q 0 1 0
  have q1 := q 32 0 (nx 0)
  have q2 := q (dst 32 0) 0 (nx (nx 0))
  have q3 := q (dst (dst 32 0) 0) 0 (nx (nx (nx 0)))
  have q4 := q (dst (dst (dst 32 0) 0) 0) 0 (nx (nx (nx (nx 0))))
  have q5 := q (dst (dst (dst (dst 32 0) 0) 0) 0) 0 (nx (nx (nx (nx (nx 0)))))
  have q6 := q (dst (dst (dst (dst (dst 32 0) 0) 0) 0) 0) 0 (nx (nx (nx (nx (nx (nx 0))))))
  omega
/-- Once nothing is made shorter the best is the least. -/
theorem least_of {W : Nat → Int} (hW : ∀ v, v < 4 → 0 ≤ W v ∧ W v ≤ 7) {L : List Int} {b : Int} (hM : MI W L b) (h : ClosedTo W L b 512) : ∃ n : Nat, b = (n : Int) ∧ IsLeast W n := by
  have hf : far = 1073741824 := rfl
  have key : ∀ s t x, Way W s t x → (x : Int) < far → if s = 0 then b ≤ (x : Int) else L.getD (4 * s + t) 0 ≤ (x : Int) := by
    intro s t x hw
    induction hw with
    | first t ht => intro _; rw [if_neg (by decide)]; exact hM.fi t ht
    | next s t x i hw hs hi ih =>
      intro hx
      have hst := hw.lt
      have ih := ih (by omega)
      rw [if_neg hs] at ih
      have hc := h s t i (by omega) hst.1 hst.2 hi (by omega)
      rcases hc with hc | hc
      · omega
      · split
        · rename_i e; rw [if_pos e] at hc; omega
        · rename_i e; rw [if_neg e] at hc; omega
  obtain ⟨t0, x0, hw0, hx0⟩ := some_way W hW
  have h0 := key 0 t0 x0 hw0 (by omega)
  rw [if_pos rfl] at h0
  rcases hM.bi with e | ⟨n, t, e, hn, hw⟩
  · omega
  · refine ⟨n, e, ⟨t, hw⟩, fun t' x' hw' => ?_⟩
    by_cases c : (x' : Int) < far
    · have := key 0 t' x' hw' c
      rw [if_pos rfl] at this
      omega
    · omega
end Go.Proofs.YtijpnlmejphfhaaDoor.P

-- YtijpnlmejphfhaaDoorPSLeastP
namespace Go.Proofs.YtijpnlmejphfhaaDoor.P
open Go Go.Proofs Go.RowKit Go.Proofs.YtijpnlmejphfhaaDoorW.PrintWords Go.Proofs.YtijpnlmejphfhaaDoorW.PrintLast Go.Proofs.YtijpnlmejphfhaaDoorW.PrintMore
set_option linter.unusedVariables false
set_option linter.unusedSimpArgs false

theorem ver_mod (s t : Nat) : ver s (t % 4) = ver s t := by unfold ver; rw [Nat.mod_mod]
theorem wsum_mod (W : Nat → Int) (o : Nat → Int) (t : Nat) : ∀ j, wsum W o (t % 4) j = wsum W o t j
  | 0 => rfl
  | j + 1 => by unfold wsum; rw [wsum_mod W o t j, ver_mod]
theorem en_mod (W : Nat → Int) (s i t : Nat) : en W s i (t % 4) = en W s i t := by unfold en ew; rw [wsum_mod]
theorem nx_mod (t : Nat) : nx (t % 4) = (t + 1) % 4 := by unfold nx; omega
theorem inn_way (W : Nat → Int) (p k u x : Nat) (hu : u < 64) (ih : ∀ u x, u < 64 → 0 < cntP W p k u x → Way W u ((p + k + 1) % 4) x ∧ u ≠ 0) (h : 0 < inn W (p + (k + 1)) (cntP W p k) u x) : Way W u ((p + (k + 1) + 1) % 4) x := by
  have hA : dst (sA u) (u / 32) = u := by unfold dst sA; omega
  have hB : dst (sB u) (u / 32) = u := by unfold dst sB; omega
  have hAl : sA u < 64 := by unfold sA; omega
  have hBl : sB u < 64 := by unfold sB; omega
  have hi : u / 32 < 2 := by omega
  unfold inn at h
  by_cases c1 : 0 < (if en W (sA u) (u / 32) (p + (k + 1)) ≤ x then cntP W p k (sA u) (x - en W (sA u) (u / 32) (p + (k + 1))) else 0)
  · split at c1
    · rename_i hle
      obtain ⟨hw, h0⟩ := ih _ _ hAl c1
      have hn := Way.next _ _ _ (u / 32) hw h0 hi
      rw [hA, nx_mod, en_mod, Nat.add_assoc p k 1, Nat.sub_add_cancel hle] at hn
      exact hn
    · omega
  · have c2 : 0 < (if en W (sB u) (u / 32) (p + (k + 1)) ≤ x then cntP W p k (sB u) (x - en W (sB u) (u / 32) (p + (k + 1))) else 0) := by omega
    split at c2
    · rename_i hle
      obtain ⟨hw, h0⟩ := ih _ _ hBl c2
      have hn := Way.next _ _ _ (u / 32) hw h0 hi
      rw [hB, nx_mod, en_mod, Nat.add_assoc p k 1, Nat.sub_add_cancel hle] at hn
      exact hn
    · omega
/-- What comes to a state is a way. -/
theorem cnt_way (W : Nat → Int) (p : Nat) : ∀ k u x, u < 64 → 0 < cntP W p k u x → Way W u ((p + k + 1) % 4) x ∧ u ≠ 0
  | 0, u, x, hu, h => by
    unfold cntP at h
    split at h
    · rename_i e
      have hw := Way.first (W := W) (p % 4) (Nat.mod_lt _ (by decide))
      rw [nx_mod, en_mod] at hw
      rw [e.1, e.2]
      exact ⟨hw, by decide⟩
    · omega
  | k + 1, u, x, hu, h => by
    unfold cntP at h
    split at h
    · omega
    · rename_i hu0
      refine ⟨?_, hu0⟩
      exact inn_way W p k u x hu (cnt_way W p k) h
theorem fnd_way (W : Nat → Int) (p : Nat) : ∀ k x, 0 < fndP W p k x → ∃ t, Way W 0 t x
  | 0, x, h => by unfold fndP at h; omega
  | k + 1, x, h => by
    unfold fndP at h
    by_cases c : 0 < fndP W p k x
    · exact fnd_way W p k x c
    · exact ⟨_, inn_way W p k 0 x (by decide) (cnt_way W p k) (by omega)⟩
/-- The first place that isn't 0. -/
theorem firstI_spec (p : Int → Bool) : ∀ (l : List Int) (i : Nat), firstI p l i = -1 ∨ ∃ j : Nat, j < l.length ∧ firstI p l i = ((i + j : Nat) : Int) ∧ p (l.getD j 0) = true
  | [], i => .inl rfl
  | x :: l, i => by
    unfold firstI
    by_cases h : p x = true
    · rw [if_pos h]; exact .inr ⟨0, by simp, by simp, h⟩
    · rw [if_neg h]
      rcases firstI_spec p l (i + 1) with e | ⟨j, hj, e, hp⟩
      · exact .inl e
      · exact .inr ⟨j + 1, by simp; omega, by rw [e]; congr 1; omega, hp⟩
/-- What First tells of counts: none, or one that is a detour's weight. -/
theorem first_counts {a b c d : Int} (p s m : Nat) (hs : s ≤ 30) : (firstN (countL a b c d p s m) = -1 ∧ firstK (countL a b c d p s m) = 0) ∨
    ∃ j : Nat, firstN (countL a b c d p s m) = (j : Int) ∧ 1 ≤ firstK (countL a b c d p s m) ∧ ∃ t, Way (wOf a b c d) 0 t j := by
  rcases firstI_spec (fun x => x != 0) (countL a b c d p s m) 0 with e | ⟨j, hj, e, hp⟩
  · have e2 : firstN (countL a b c d p s m) = -1 := e
    exact .inl ⟨e2, by unfold firstK; rw [if_pos (by omega)]⟩
  · rw [Nat.zero_add] at e
    have e2 : firstN (countL a b c d p s m) = (j : Int) := e
    rw [countL_length _ _ _ _ _ _ _ hs] at hj
    have hg := countL_get a b c d p s m j hs (by omega)
    have hne : (countL a b c d p s m).getD j 0 ≠ 0 := bne_iff_ne.mp hp
    have hk : firstK (countL a b c d p s m) = (countL a b c d p s m).getD j 0 := by unfold firstK; rw [e2, if_neg (by omega), Int.toNat_natCast]
    refine .inr ⟨j, e2, by rw [hk, hg]; rw [hg] at hne; omega, fnd_way (wOf a b c d) p (s - 1) j (by rw [hg] at hne; omega)⟩
end Go.Proofs.YtijpnlmejphfhaaDoor.P

-- YtijpnlmejphfhaaDoorPSLaw0
namespace Go.Proofs.YtijpnlmejphfhaaDoor.P
open Go Go.Proofs Go.RowKit Go.Proofs.YtijpnlmejphfhaaDoorW.PrintWords Go.Proofs.YtijpnlmejphfhaaDoorW.PrintLast Go.Proofs.YtijpnlmejphfhaaDoorW.PrintMore
set_option linter.unusedVariables false
set_option linter.unusedSimpArgs false
attribute [local go_sem] max2_int min2_int max_two min_two max_three min_three max_four min_four

theorem C_of_ints {w : World} {F n : Nat} {l : List Int} (h : w.heap[F]? = some (.cells (ints l) 3 (0, 0))) (hl : l.length = n) (hn : n ≤ 100000) : Kd.C (Kd.int .i64) w (some ⟨F, 0, none⟩) n l :=
  C_of_blk h rfl ⟨hl.symm, by omega⟩
set_option maxRecDepth 100000 in
set_option maxHeartbeats 8000000 in
theorem counts_calls {w : World} (hT : TP w) : Calls Tryd.prog 12 #[] w fun e w' => e = .returned (.bool true) ∧ Below w.heap.size w w' := by
  have HC := Aside0.mk (show Calls Tryd.prog 11 #[.agg #[.int .i64 1, .int .i64 1, .int .i64 1, .int .i64 1], .int .i64 0, .int .i64 7, .int .i64 30] w _ from count_calls hT 1 1 1 1 0 7 30 (by decide) (by decide) (by decide) (by decide))
  obtain ⟨L, hL⟩ : ∃ L, L = countL 1 1 1 1 0 7 30 := ⟨_, rfl⟩
  have hf1 := counts_are.1
  have hf2 := counts_are.2
  rw [← hL] at HC hf1 hf2
  have HF := Aside0.mk (And.intro hf1 hf2)
  clear hT hL hf1 hf2
  go_enter Tryd.func12, Tryd.ntmps12
  go_wp2_with (first
    | (go_at_call 11
       refine HC.out.mono ?_
       rintro e w1 ⟨F, rfl, hF, hl, hb⟩
       have hfi := first_calls (some ⟨F, 0, none⟩) (30 + 1) L w1 (by rw [hl]; exact C_of_ints hF hl (by omega)) (by omega)
       rw [hl, HF.out.1, HF.out.2] at hfi
       have HFI := Aside0.mk hfi
       have HB := Aside0.mk hb
       clear hF hl hb hfi HC)
    | (go_at_call 16
       refine HFI.out.mono ?_
       rintro e w2 ⟨rfl, hb⟩
       have HB2 := Aside0.mk (below_step HB.out hb)
       clear hb)
    | fail)
  go_ret
  exact ⟨by simp, HB2.out⟩
theorem i64_info3 : (Tryd.prog.info? 3).map (fun i => (i.zero, i.size, i.bytes)) = some (some (.int .i64 0), 1, 8) := by kernel_rfl
theorem firstI_next (l : List Int) (i : Nat) (h : i < l.length) : firstI (fun x => x != 0) (l.drop i) i = if l.getD i 0 ≠ 0 then (i : Int) else firstI (fun x => x != 0) (l.drop (i + 1)) (i + 1) := by
  have e : l[i] = l.getD i 0 := by rw [List.getD_eq_getElem?_getD, List.getElem?_eq_getElem h]; rfl
  rw [List.drop_eq_getElem_cons h]
  show (if (l[i] != 0) = true then (i : Int) else _) = _
  rw [e]
  by_cases c : l.getD i 0 = 0
  · rw [c, if_neg (by decide), if_neg (by decide)]
  · rw [if_pos (bne_iff_ne.mpr c), if_pos c]
set_option maxRecDepth 100000 in
set_option maxHeartbeats 8000000 in
theorem lawFirst_calls (A0 : Option Addr) (c0 : Nat) (l0 : List Int) (w : World) (hT : TP w) (hr0 : Kd.C (Kd.int .i64) w A0 l0.length l0) (hc0 : l0.length ≤ c0) :
    Calls Tryd.prog 5 #[.slice A0 l0.length c0] w fun e w' => e = .returned (.bool true) ∧ Below w.heap.size w w' := by
  obtain ⟨i0, hi, hz0, hz1, hz2⟩ := info_parts i64_info3
  obtain ⟨J, hJ⟩ : ∃ J : Int, (if (100 : Int) < (l0.length : Int) then (100 : Int) else (l0.length : Int)) = J := ⟨_, rfl⟩
  have hJ0 : 0 ≤ J := by rw [← hJ]; split <;> omega
  have hJ1 : J ≤ (l0.length : Int) := by rw [← hJ]; split <;> omega
  have hJ2 : J ≤ 100 := by rw [← hJ]; split <;> omega
  obtain ⟨M, rfl⟩ := Int.eq_ofNat_of_zero_le hJ0
  obtain ⟨hcut, hA, hCC⟩ := print_take_of (P := Tryd.prog) (Value.int .i64) 0 24 3 .i64 Tryd.underlying24 hi hz1 A0 c0 l0 (M : Int) hJ0 hJ1 hc0
  rw [Int.toNat_natCast] at hcut hA hCC
  have hlen : (l0.take M).length = M := by rw [List.length_take]; omega
  have HR := Aside0.mk (Kd.C_of_reads (h1 := fun _ => rfl) (hA _ (Kd.reads_of_C hr0)))
  rw [hlen] at hcut HR
  generalize hb : l0.take M = b at hlen HR
  have HT := Aside0.mk hT
  have HFI := Aside0.mk (fun w1 (hb : Below w.heap.size w w1) => (hlen ▸ first_calls A0 c0 b w1 (by rw [hlen]; exact Kd.C_below HR.out hb) (by omega) : Calls Tryd.prog 16 #[.slice A0 M c0] w1 fun e w' => e = .returned (.tuple #[.int .i64 (firstN b), .int .i64 (firstK b)]) ∧ Below w1.heap.size w1 w'))
  have HL := Aside0.mk hlen
  have hM : M ≤ 100 := by omega
  clear hr0 hA hCC hb hT hlen
  go_enter Tryd.func5, Tryd.ntmps5
  go_wp2_with (first
    | (go_at_call 16; refine Aside0.out ?_)
    | fail)
  refine Aside0.mk ?_
  refine (HFI.out w (Below.refl _ _)).mono ?_
  rintro e w1 ⟨rfl, hb⟩
  obtain ⟨fn, hfn⟩ : ∃ fn, fn = firstN b := ⟨_, rfl⟩
  obtain ⟨fk, hfk⟩ : ∃ fk, fk = firstK b := ⟨_, rfl⟩
  rw [← hfn, ← hfk]
  have HFN := Aside0.mk hfn
  have HFK := Aside0.mk hfk
  have HB1 := Aside0.mk hb
  clear hfn hfk hb HFI
  go_wp2_with fail
  go_loopw [5] (fun v5 wr => ∃ i : Nat, v5 = .int .i64 (i : Int) ∧ i ≤ M ∧ Aside0 (firstI (fun x => x != 0) (b.drop i) i = firstN b) ∧ Aside0 (Below w.heap.size w wr)) (fun v5 _ => M - (intOf v5).toNat)
  case atStart => exact ⟨0, by simp, by omega, ⟨rfl⟩, HB1⟩
  case round =>
    clear HB1
    obtain ⟨i, rfl, hiM, HF, HB⟩ := hrel
    by_cases hlt : i < M
    · have hlb : decide ((i : Int) < (M : Int)) = true := decide_eq_true (by omega)
      obtain ⟨ad, rfl, hcx⟩ := ReadsOf.at_ (Kd.reads_of_C (d := (0 : Int)) (Kd.C_below HR.out HB.out)) (i : Int) (by omega) (by omega)
      rw [Int.toNat_natCast] at hcx
      obtain ⟨x, hx⟩ : ∃ x, x = rdOf 0 b (i : Int) := ⟨_, rfl⟩
      have hxg : b.getD i 0 = x := by rw [hx]; unfold rdOf; rw [Int.toNat_natCast]
      rw [← hx] at hcx
      have hf := HF.out
      rw [firstI_next b i (by have := HL.out; omega), hxg] at hf
      have hiM2 : (i : Int) < (M : Int) := by omega
      by_cases hx0 : x = 0
      · have HF2 := Aside0.mk (show firstI (fun x => x != 0) (b.drop (i + 1)) (i + 1) = firstN b from by rw [← hf, if_neg (by simp [hx0])])
        subst hx0
        clear hx hxg hf HF
        go_wp2_with fail
        go_roundw
        case rel => exact ⟨i + 1, by simp, by omega, HF2, HB⟩
        case measure => simp [intOf]; omega
      · have hxb : (x != 0) = true := bne_iff_ne.mpr hx0
        rw [if_pos hx0] at hf
        have hn : fn = (i : Int) := by rw [HFN.out]; exact hf.symm
        have hk : fk = x := by rw [HFK.out]; unfold firstK; rw [← hf, if_neg (by omega), Int.toNat_natCast, hxg]
        subst hn
        subst hk
        have HC := Aside0.mk (counts_calls (TP_of HT.out HB.out))
        have hgl : (ad.add i).block < wr.heap.size := World.block_lt_of_cell? wr _ hcx
        have HCX := Aside0.mk hcx
        clear hx hxg hf HF
        go_wp2_with (first
          | (go_at_call 12
             refine HC.out.mono ?_
             rintro e w2 ⟨rfl, hb⟩
             have hcx2 := (hb.cell (p := ad.add i) hgl).trans HCX.out
             have HB2 := Aside0.mk (below_step HB.out hb)
             clear hb)
          | fail)
        go_ret
        exact ⟨by simp, HB2.out⟩
    · obtain rfl : i = M := by omega
      have hlb : decide ((i : Int) < (i : Int)) = false := decide_eq_false (by omega)
      have hf := HF.out
      rw [List.drop_eq_nil_of_le (by have := HL.out; omega)] at hf
      have hn : fn = -1 := by rw [HFN.out]; exact hf.symm
      have hk : fk = 0 := by rw [HFK.out]; unfold firstK; rw [← hf, if_pos (by show (-1 : Int) < 0; decide)]
      subst hn
      subst hk
      have HC := Aside0.mk (counts_calls (TP_of HT.out HB.out))
      clear hf HF
      go_wp2_with (first
        | (go_at_call 12
           refine HC.out.mono ?_
           rintro e w2 ⟨rfl, hb⟩
           have HB2 := Aside0.mk (below_step HB.out hb)
           clear hb)
        | fail)
      go_ret
      exact ⟨by simp, HB2.out⟩
end Go.Proofs.YtijpnlmejphfhaaDoor.P

-- YtijpnlmejphfhaaDoorPSAll
namespace Go.Proofs.YtijpnlmejphfhaaDoor.P
open Go Go.Proofs Go.RowKit Go.Proofs.YtijpnlmejphfhaaDoorW.PrintWords Go.Proofs.YtijpnlmejphfhaaDoorW.PrintLast Go.Proofs.YtijpnlmejphfhaaDoorW.PrintMore
set_option linter.unusedVariables false
set_option linter.unusedSimpArgs false

/-- A number made natural, modulo m. -/
theorem modN (m : Int) (hm : 0 < m) (hm2 : m ≤ 100000) (a : Int) : ∃ N : Nat, IntKind.i64.wrap (Int.tmod (IntKind.u64.wrap a) m) = (N : Int) ∧ (N : Int) < m := by
  have h1 : 0 ≤ IntKind.u64.wrap a := by rw [IntKind.wrap_u64]; omega
  have h2 : 0 ≤ (IntKind.u64.wrap a).tmod m := Int.tmod_nonneg _ h1
  have h3 : (IntKind.u64.wrap a).tmod m < m := Int.tmod_lt_of_pos _ hm
  refine ⟨((IntKind.u64.wrap a).tmod m).toNat, ?_, by omega⟩
  rw [IntKind.wrap_i64]; omega
/-- The ways without weights. -/
def wayN : Nat → Nat → Nat
  | 0, u => if u = 32 then 1 else 0
  | k + 1, u => if u = 0 then 0 else wayN k (sA u) + wayN k (sB u)
def allN : Nat → Nat
  | 0 => 0
  | k + 1 => allN k + (wayN k 0 + wayN k 1)
/-- The lists of up to j bits that begin and end with a 1. -/
def wantN : Nat → Nat
  | 0 => 0
  | 1 => 1
  | j + 2 => wantN (j + 1) + 2 ^ j
theorem wOf0 (v : Nat) : wOf 0 0 0 0 v = 0 := by unfold wOf; split <;> rfl
theorem wsum0 (o : Nat → Int) (t : Nat) : ∀ j, wsum (wOf 0 0 0 0) o t j = 0
  | 0 => rfl
  | j + 1 => by unfold wsum; rw [wsum0 o t j, wOf0]; omega
theorem en0 (s i t : Nat) : en (wOf 0 0 0 0) s i t = 0 := by unfold en ew; rw [wsum0]; rfl
theorem inn0 (t : Nat) (P : Nat → Nat → Nat) (u x : Nat) : inn (wOf 0 0 0 0) t P u x = P (sA u) x + P (sB u) x := by
  unfold inn
  rw [en0, en0, if_pos (Nat.zero_le _), if_pos (Nat.zero_le _), Nat.sub_zero]
theorem cnt0 (p : Nat) : ∀ k u x, cntP (wOf 0 0 0 0) p k u x = if x = 0 then wayN k u else 0
  | 0, u, x => by
    unfold cntP wayN
    rw [en0]
    by_cases h : x = 0
    · rw [if_pos h]; simp [h]
    · rw [if_neg h, if_neg (fun q => h q.2)]
  | k + 1, u, x => by
    unfold cntP wayN
    rw [inn0, cnt0 p k, cnt0 p k]
    by_cases h : x = 0
    · simp [h]
    · simp [h]
theorem fnd0 (p : Nat) : ∀ k x, fndP (wOf 0 0 0 0) p k x = if x = 0 then allN k else 0
  | 0, x => by unfold fndP allN; simp
  | k + 1, x => by
    unfold fndP allN
    rw [fnd0 p k, inn0, cnt0, cnt0]
    have e1 : sA 0 = 0 := rfl
    have e2 : sB 0 = 1 := rfl
    rw [e1, e2]
    by_cases h : x = 0
    · simp [h]
    · simp [h]
theorem all_want : ∀ s, s < 13 → allN (s - 1) = wantN (s - 6) := by decide +kernel
theorem countL0 (p s : Nat) (hs : s < 13) : countL 0 0 0 0 p s 3 = [(wantN (s - 6) : Int), 0, 0, 0] := by
  rw [countL_eq 0 0 0 0 p s 3 (by omega), ← all_want s hs]
  simp only [fnd0]
  rfl
set_option maxRecDepth 100000 in
set_option maxHeartbeats 8000000 in
theorem lawAll_calls (a0 a1 : Int) (w : World) (hT : TP w) :
    Calls Tryd.prog 6 #[.int .i64 a0, .int .i64 a1] w fun e w' => e = .returned (.bool true) ∧ Below w.heap.size w w' := by
  obtain ⟨p, hp, hp4⟩ := modN 4 (by decide) (by decide) a0
  obtain ⟨s, hs, hs13⟩ := modN 13 (by decide) (by decide) a1
  have HC := Aside0.mk (show Calls Tryd.prog 11 #[.agg #[.int .i64 0, .int .i64 0, .int .i64 0, .int .i64 0], .int .i64 (p : Int), .int .i64 (s : Int), .int .i64 3] w _ from count_calls hT 0 0 0 0 p s 3 (by omega) (by omega) (by decide) (by decide))
  rw [countL0 p s (by omega)] at HC
  have HT := Aside0.mk hT
  clear hT
  go_enter Tryd.func6, Tryd.ntmps6
  go_wp2_with (first
    | (go_at_call 11
       refine HC.out.mono ?_
       rintro e w1 ⟨F, rfl, hF, hl, hb⟩
       have HF := Aside0.mk hF
       have HB := Aside0.mk hb
       have HCO := Aside0.mk (counts_calls (TP_of HT.out hb))
       clear hF hl hb HC)
    | (go_at_call 12
       refine HCO.out.mono ?_
       rintro e w2 ⟨rfl, hb⟩
       have HF2 := Aside0.mk ((hb.block F (blk_lt HF.out)).trans HF.out)
       have HB2 := Aside0.mk (below_step HB.out hb)
       clear hb HF HCO)
    | fail)
  go_loopw [7, 8] (fun v7 v8 wr => ∃ i : Nat, v7 = .int .i64 (wantN i : Int) ∧ v8 = .int .i64 ((i : Int) + 1) ∧ i ≤ 6 ∧ (i = 0 ∨ i + 6 ≤ s) ∧ wr = w2) (fun _ v8 _ => 20 - (intOf v8).toNat)
  case atStart => exact ⟨0, by simp [wantN], by simp, by omega, by omega, rfl⟩
  case round =>
    obtain ⟨i, rfl, rfl, hi, his, rfl⟩ := hrel
    by_cases hlt : i + 7 ≤ s
    · have hc : i = 0 ∨ i = 1 ∨ i = 2 ∨ i = 3 ∨ i = 4 ∨ i = 5 := by omega
      have hcs : (7 : Int) + i ≤ s := by omega
      rcases hc with rfl | rfl | rfl | rfl | rfl | rfl
      · skip
        go_wp2_with fail
        go_roundw
        case rel => exact ⟨0 + 1, by first | rfl | (simp [wantN]; done) | (simp [wantN]; exact wrap_small (by decide) (by decide)), by simp, by omega, by omega, by first | trivial | rfl⟩
        case measure => simp [intOf]
      · skip
        go_wp2_with fail
        go_roundw
        case rel => exact ⟨1 + 1, by first | rfl | (simp [wantN]; done) | (simp [wantN]; exact wrap_small (by decide) (by decide)), by simp, by omega, by omega, by first | trivial | rfl⟩
        case measure => simp [intOf]
      · skip
        go_wp2_with fail
        go_roundw
        case rel => exact ⟨2 + 1, by first | rfl | (simp [wantN]; done) | (simp [wantN]; exact wrap_small (by decide) (by decide)), by simp, by omega, by omega, by first | trivial | rfl⟩
        case measure => simp [intOf]
      · skip
        go_wp2_with fail
        go_roundw
        case rel => exact ⟨3 + 1, by first | rfl | (simp [wantN]; done) | (simp [wantN]; exact wrap_small (by decide) (by decide)), by simp, by omega, by omega, by first | trivial | rfl⟩
        case measure => simp [intOf]
      · skip
        go_wp2_with fail
        go_roundw
        case rel => exact ⟨4 + 1, by first | rfl | (simp [wantN]; done) | (simp [wantN]; exact wrap_small (by decide) (by decide)), by simp, by omega, by omega, by first | trivial | rfl⟩
        case measure => simp [intOf]
      · skip
        go_wp2_with fail
        go_roundw
        case rel => exact ⟨5 + 1, by first | rfl | (simp [wantN]; done) | (simp [wantN]; exact wrap_small (by decide) (by decide)), by simp, by omega, by omega, by first | trivial | rfl⟩
        case measure => simp [intOf]
    · have hlb : decide ((i : Int) + 7 ≤ (s : Int)) = false := decide_eq_false (by omega)
      have hie : i = s - 6 := by omega
      have hc0 : wr.cell? ⟨F, 0, none⟩ = some (.int .i64 (wantN i : Int)) := by rw [hie]; exact ints_cell HF2.out 0 (by simp)
      have hc1 : wr.cell? ⟨F, 1, none⟩ = some (.int .i64 0) := ints_cell HF2.out 1 (by simp)
      have hc2 : wr.cell? ⟨F, 2, none⟩ = some (.int .i64 0) := ints_cell HF2.out 2 (by simp)
      have hc3 : wr.cell? ⟨F, 3, none⟩ = some (.int .i64 0) := ints_cell HF2.out 3 (by simp)
      clear hie
      go_wp2_with fail
      go_ret
      exact ⟨by simp, HB2.out⟩
end Go.Proofs.YtijpnlmejphfhaaDoor.P

-- YtijpnlmejphfhaaDoorPSRef2
namespace Go.Proofs.YtijpnlmejphfhaaDoor.P
open Go Go.Proofs Go.RowKit Go.Proofs.YtijpnlmejphfhaaDoorW.PrintWords Go.Proofs.YtijpnlmejphfhaaDoorW.PrintLast Go.Proofs.YtijpnlmejphfhaaDoorW.PrintMore
set_option linter.unusedVariables false
set_option linter.unusedSimpArgs false
attribute [local go_sem] max2_int min2_int max_two min_two max_three min_three max_four min_four

/-- A list of n numbers, of which the first m are f's. -/
def fill (f : Nat → Int) (n : Nat) (z : Int) (m : Nat) : List Int := (List.range n).map fun q => if q < m then f q else z
theorem fill_length (f : Nat → Int) (n : Nat) (z : Int) (m : Nat) : (fill f n z m).length = n := by simp [fill]
theorem fill_get? (f : Nat → Int) (n : Nat) (z : Int) (m q : Nat) : (fill f n z m)[q]? = if q < n then some (if q < m then f q else z) else none := by
  unfold fill
  rw [List.getElem?_map]
  by_cases h : q < n
  · rw [List.getElem?_range h, if_pos h]; rfl
  · rw [if_neg h, List.getElem?_eq_none (by simp; omega)]; rfl
theorem fill_set (f : Nat → Int) (n : Nat) (z : Int) (m : Nat) : (fill f n z m).set m (f m) = fill f n z (m + 1) := by
  apply List.ext_getElem?
  intro q
  rw [List.getElem?_set, fill_get?, fill_get?, fill_length]
  by_cases e : m = q
  · subst e
    rw [if_pos rfl]
    by_cases k : m < n
    · rw [if_pos k, if_pos k, if_pos (Nat.lt_succ_self _)]
    · rw [if_neg k, if_neg k]
  · rw [if_neg e]
    by_cases k : q < n
    · rw [if_pos k, if_pos k]
      by_cases k2 : q < m
      · rw [if_pos k2, if_pos (by omega)]
      · rw [if_neg k2, if_neg (by omega)]
    · rw [if_neg k, if_neg k]
theorem fill_get (f : Nat → Int) (n : Nat) (z : Int) (m q : Nat) (h : q < n) (hm : q < m) : (fill f n z m).getD q 0 = f q := by
  rw [List.getD_eq_getElem?_getD, fill_get?, if_pos h, if_pos hm]; rfl
theorem fill_zero (f : Nat → Int) (n : Nat) (z : Int) : fill f n z 0 = List.replicate n z := by
  apply List.ext_getElem
  · simp [fill_length]
  · intro q h1 h2
    simp [fill]
theorem ints_cell' {w : World} {a : Nat} {l : List Int} {t : TypeId} (h : w.heap[a]? = some (.cells (ints l) t (0, 0))) (j : Nat) (hj : j < l.length) : w.cell? ⟨a, j, none⟩ = some (.int .i64 (l.getD j 0)) :=
  (blk_cell h j).trans (ints_get l j hj)
/-- An edge's cells. -/
def eC (q : Nat) : Nat → Value
  | 0 => .int .i64 ((q / 2 : Nat) : Int)
  | 1 => .int .i64 ((dst (q / 2) (q % 2) : Nat) : Int)
  | 2 => .int .u8 ((q % 2 : Nat) : Int)
  | 3 => .int .u8 (ob (q / 2) (q % 2) 0)
  | 4 => .int .u8 (ob (q / 2) (q % 2) 1)
  | 5 => .int .u8 (ob (q / 2) (q % 2) 2)
  | _ => .int .u8 (ob (q / 2) (q % 2) 3)
/-- The edges' table, up to the m-th. -/
def EB (w : World) (E m : Nat) : Prop := ∃ C, w.heap[E]? = some (.cells C 60 (0, 0)) ∧ C.size = 896 ∧ ∀ q j, q < m → j < 7 → C[7 * q + j]? = some (eC q j)
theorem EB.below {w w' : World} {E m : Nat} (h : EB w E m) (hb : Below w.heap.size w w') : EB w' E m := by
  obtain ⟨C, h1, h2⟩ := h
  exact ⟨C, (hb.block E (blk_lt h1)).trans h1, h2⟩
def wv (W : Nat → Int) (q : Nat) : Int := ew W (q / 8) (q / 4 % 2) (q % 4)
/-- The three tables, while they are being filled. -/
structure R1 (w0 w : World) (x0 E V : Nat) (a b c d : Int) (m q : Nat) : Prop where
  bel : Below w0.heap.size w0 w
  box : w.heap[x0]? = some (.cells #[.int .i64 a, .int .i64 b, .int .i64 c, .int .i64 d] 22 (0, 0))
  edge : EB w E m
  wt : w.heap[V]? = some (.cells (ints (fill (wv (wOf a b c d)) 512 0 q)) 62 (0, 0))
theorem R1.below {w0 w w' : World} {x0 E V : Nat} {a b c d : Int} {m q : Nat} (h : R1 w0 w x0 E V a b c d m q) (hb : Below w.heap.size w w') : R1 w0 w' x0 E V a b c d m q :=
  ⟨below_step h.bel hb, (hb.block x0 (blk_lt h.box)).trans h.box, h.edge.below hb, (hb.block V (blk_lt h.wt)).trans h.wt⟩
def eL (q : Nat) : List Value := [eC q 0, eC q 1, eC q 2, eC q 3, eC q 4, eC q 5, eC q 6]
theorem eL_get (q j : Nat) (h : j < 7) : (eL q)[j]? = some (eC q j) := by
  obtain rfl | rfl | rfl | rfl | rfl | rfl | rfl : j = 0 ∨ j = 1 ∨ j = 2 ∨ j = 3 ∨ j = 4 ∨ j = 5 ∨ j = 6 := by omega
  all_goals rfl
theorem eL_at (s i : Nat) (hi : i < 2) : #[Value.int .i64 (s : Int), .int .i64 ((dst s i : Nat) : Int), .int .u8 (i : Int), .int .u8 (ob s i 0), .int .u8 (ob s i 1), .int .u8 (ob s i 2), .int .u8 (ob s i 3)] = (eL (2 * s + i)).toArray := by
  have e1 : (2 * s + i) / 2 = s := by omega
  have e2 : (2 * s + i) % 2 = i := by omega
  unfold eL eC
  rw [e1, e2]
  rfl
theorem eC_one (q j : Nat) : (eC q j).oneCell' = true := by unfold eC; split <;> rfl
theorem eL_one (q : Nat) : (eL q).toArray.all (·.oneCell') = true := all_oneCell_toArray (fun v hv => by
  simp only [eL, List.mem_cons, List.not_mem_nil, or_false] at hv
  rcases hv with rfl | rfl | rfl | rfl | rfl | rfl | rfl <;> exact eC_one _ _)
theorem EB.cell {w : World} {E m : Nat} (h : EB w E m) (q j : Nat) (hq : q < m) (hj : j < 7) : w.cell? ⟨E, 7 * q + j, none⟩ = some (eC q j) := by
  obtain ⟨C, h1, h2, h3⟩ := h
  exact (blk_cell h1 _).trans (h3 q j hq hj)
theorem EB.there {w : World} {E m : Nat} (h : EB w E m) (q : Nat) (hq : q < 128) : w.there E (7 * q) 7 := by
  obtain ⟨C, h1, h2, h3⟩ := h
  intro j hj
  refine ⟨?_, blk_frozen h1 _⟩
  rw [blk_cell h1, Array.getElem?_eq_getElem (by omega)]; rfl
theorem EB.put {w : World} {E m : Nat} (h : EB w E m) (hm : m < 128) : EB (w.setCells E (7 * m) (eL m)) E (m + 1) := by
  obtain ⟨C, h1, h2, h3⟩ := h
  obtain ⟨C2, k1, k2, k3, k4⟩ := setCells_blk (eL m) (7 * m) w C h1
  refine ⟨C2, k1, k2.trans h2, fun q j hq hj => ?_⟩
  by_cases e : q = m
  · subst e
    exact k4 j _ (eL_get q j hj) (by omega)
  · rw [k3 _ (.inl (by omega))]
    exact h3 q j (by omega) hj
theorem R1.edge_put {w0 w : World} {x0 E V : Nat} {a b c d : Int} {m q : Nat} (h : R1 w0 w x0 E V a b c d m q) (hm : m < 128) (h1 : w0.heap.size ≤ E) (h2 : x0 ≠ E) (h3 : V ≠ E) : R1 w0 (w.setCells E (7 * m) (eL m)) x0 E V a b c d (m + 1) q :=
  have hp := Put1.cells_ E (eL m) (7 * m) w
  ⟨h.bel.trans (hp.below h1), (hp.block x0 h2).trans h.box, h.edge.put hm, (hp.block V h3).trans h.wt⟩
theorem R1.wt_put {w0 w : World} {x0 E V : Nat} {a b c d : Int} {m q : Nat} (h : R1 w0 w x0 E V a b c d m q) (x : Int) (hx : x = wv (wOf a b c d) q) (h1 : w0.heap.size ≤ V) (h2 : x0 ≠ V) (h3 : E ≠ V) : R1 w0 (w.setCell ⟨V, q, none⟩ (.int .i64 x)) x0 E V a b c d m (q + 1) := by
  subst hx
  have hp := Put1.set V q w (.int .i64 (wv (wOf a b c d) q))
  obtain ⟨C, e1, e2⟩ := h.edge
  refine ⟨h.bel.trans (hp.below h1), (hp.block x0 h2).trans h.box, ⟨C, (hp.block E h3).trans e1, e2⟩, ?_⟩
  rw [← fill_set, ← ints_set]
  exact blk_put h.wt q _ rfl
/-- The tables, and what is known of how far places are. -/
structure R2 (w0 w : World) (E V T : Nat) (a b c d : Int) (L : List Int) : Prop where
  bel : Below w0.heap.size w0 w
  edge : EB w E 128
  wt : w.heap[V]? = some (.cells (ints (fill (wv (wOf a b c d)) 512 0 512)) 62 (0, 0))
  at_ : w.heap[T]? = some (.cells (ints L) 65 (0, 0))
theorem R2.below {w0 w w' : World} {E V T : Nat} {a b c d : Int} {L : List Int} (h : R2 w0 w E V T a b c d L) (hb : Below w.heap.size w w') : R2 w0 w' E V T a b c d L :=
  ⟨below_step h.bel hb, h.edge.below hb, (hb.block V (blk_lt h.wt)).trans h.wt, (hb.block T (blk_lt h.at_)).trans h.at_⟩
theorem R2.put {w0 w : World} {E V T : Nat} {a b c d : Int} {L : List Int} (h : R2 w0 w E V T a b c d L) (q : Nat) (x : Int) (h1 : w0.heap.size ≤ T) (h2 : E ≠ T) (h3 : V ≠ T) : R2 w0 (w.setCell ⟨T, q, none⟩ (.int .i64 x)) E V T a b c d (L.set q x) := by
  have hp := Put1.set T q w (.int .i64 x)
  obtain ⟨C, e1, e2⟩ := h.edge
  refine ⟨h.bel.trans (hp.below h1), ⟨C, (hp.block E h2).trans e1, e2⟩, (hp.block V h3).trans h.wt, ?_⟩
  rw [← ints_set]
  exact blk_put h.at_ q _ rfl
def z58 : Array Value := #[.int .i64 0, .int .i64 0, .int .u8 0, .int .u8 0, .int .u8 0, .int .u8 0, .int .u8 0]
/-- An edge put into a box of its own. -/
theorem ebox (w : World) (q : Nat) : (w.alloc (.cells z58 58)).there w.heap.size 0 7 ∧ Below w.heap.size w ((w.alloc (.cells z58 58)).setCells w.heap.size 0 (eL q)) ∧ ∀ j, j < 7 → ((w.alloc (.cells z58 58)).setCells w.heap.size 0 (eL q)).cell? ⟨w.heap.size, j, none⟩ = some (eC q j) := by
  have hb := blk_new w (.cells z58 58)
  obtain ⟨C2, k1, k2, k3, k4⟩ := setCells_blk (eL q) 0 _ z58 hb
  refine ⟨fun j hj => ⟨?_, blk_frozen hb _⟩, (below_alloc (Below.refl _ _) _).trans ((Put1.cells_ w.heap.size (eL q) 0 _).below (Nat.le_refl _)), fun j hj => ?_⟩
  · rw [blk_cell hb, Array.getElem?_eq_getElem (show 0 + j < z58.size by rw [Nat.zero_add]; exact hj)]; rfl
  · rw [blk_cell k1]
    have h := k4 j _ (eL_get q j hj) (by rw [Nat.zero_add]; exact hj)
    rw [Nat.zero_add] at h
    exact h
theorem put_none (a : Act) (v : Value) : a.put none v = a := rfl
/-- What the numbers of a block come to. -/
def msr (w : World) (T : Nat) : Nat := match w.heap[T]? with | some (.cells C _ _) => (C.toList.map (fun v => (intOf v).toNat)).sum | _ => 0
def chN : Value → Nat
  | .bool true => 1
  | _ => 0
theorem msr_ints {w : World} {T : Nat} {t : TypeId} {L : List Int} (h : w.heap[T]? = some (.cells (ints L) t (0, 0))) : msr w T = sumN L := by
  unfold msr sumN
  rw [h]
  simp [ints, nums, intOf, Function.comp_def]
theorem z65 : Tryd.zeroCells65 = ints (List.replicate 256 0) := by kernel_rfl
theorem z60 : Tryd.zeroCells60.size = 896 := by kernel_rfl
theorem z62 : Tryd.zeroCells62 = ints (List.replicate 512 0) := by kernel_rfl
def least10.T : Bool × List (List Nat × List Nat) := (true, [([], []), ([], []), ([], []), ([], []), ([3], [3]), ([2, 4], [2, 4]), ([0], [0]), ([6, 1, 0, 1, 2, 3, 4, 5], [1, 6]), ([7, 5, 5, 0, 1, 2, 3, 4, 5], [5, 7])])
def least10.B : List Nat := [0, 0, 0, 0, 8, 28, 1, 127, 255]
theorem least10.tab : rtab .any (opsOf Tryd.f15 10) = least10.T := by kernel_rfl
theorem least10.bits : waitsOk least10.T.2 least10.B = true := by kernel_rfl
def least27.T : Bool × List (List Nat × List Nat) := (true, [([], []), ([0], [0]), ([], []), ([2], [2]), ([3], [3]), ([], []), ([5], [5]), ([], []), ([7], [7]), ([8], [8]), ([6], [6]), ([10, 9], [9, 10]), ([11], [11]), ([], []), ([], []), ([14], [14]), ([15, 13], [13, 15]), ([16], [16]), ([12, 17], [12, 17]), ([1], [1]), ([19, 4, 0, 1, 2, 3, 4, 5, 6, 7, 8, 9, 10, 11, 12, 13, 14, 15, 16, 17, 18], [4, 19]), ([20, 18, 0, 1, 2, 3, 4, 5, 6, 7, 8, 9, 10, 11, 12, 13, 14, 15, 16, 17, 18], [18, 20])])
def least27.B : List Nat := [0, 1, 0, 4, 12, 0, 32, 0, 128, 384, 96, 2016, 4064, 0, 0, 16384, 57344, 122880, 262112, 3, 1048575, 2097151]
theorem least27.tab : rtab .any (opsOf Tryd.f15 27) = least27.T := by kernel_rfl
theorem least27.bits : waitsOk least27.T.2 least27.B = true := by kernel_rfl
def least43.T : Bool × List (List Nat × List Nat) := (true, [([], []), ([], []), ([0], [0]), ([2, 1], [1, 2]), ([3], [3]), ([], []), ([], []), ([], []), ([5], [5]), ([8, 6], [6, 8]), ([9, 7], [7, 9]), ([10], [10]), ([4, 11], [4, 11]), ([12, 0, 1, 2, 3, 4, 5, 6, 7, 8, 9, 10, 11, 12], [12])])
def least43.B : List Nat := [0, 0, 1, 7, 15, 0, 0, 0, 32, 352, 992, 2016, 4095, 8191]
theorem least43.tab : rtab .any (opsOf Tryd.f15 43) = least43.T := by kernel_rfl
theorem least43.bits : waitsOk least43.T.2 least43.B = true := by kernel_rfl
def least14.T : Bool × List (List Nat × List Nat) := (true, [([], []), ([], []), ([], []), ([], []), ([], []), ([3], [3]), ([5, 4], [4, 5]), ([6], [6]), ([], []), ([], []), ([7, 8, 9], [7, 8, 9]), ([0], [0]), ([11, 1], [1, 11]), ([12, 2, 0, 1, 2, 3, 4, 5, 6, 7, 8, 9, 10], [2, 12]), ([13, 10, 10, 0, 1, 2, 3, 4, 5, 6, 7, 8, 9, 10], [10, 13])])
def least14.B : List Nat := [0, 0, 0, 0, 0, 8, 56, 120, 0, 0, 1016, 1, 2051, 8191, 16383]
theorem least14.tab : rtab .any (opsOf Tryd.f15 14) = least14.T := by kernel_rfl
theorem least14.bits : waitsOk least14.T.2 least14.B = true := by kernel_rfl
set_option maxRecDepth 100000 in
set_option maxHeartbeats 8000000 in
theorem rleast_calls (a b c d : Int) (hw : wok a b c d = true) (w : World) :
    Calls Tryd.prog 15 #[.agg #[.int .i64 a, .int .i64 b, .int .i64 c, .int .i64 d]] w fun e w' => ∃ n : Nat, e = .returned (.int .i64 (n : Int)) ∧ IsLeast (wOf a b c d) n ∧ Below w.heap.size w w' := by
  have HW := Aside0.mk (wok_in hw)
  clear hw
  go_enter Tryd.func15, Tryd.ntmps15
  go_wp2_with fail
  have hba := below_alloc (Below.refl w.heap.size w) (.cells #[.int .i64 a, .int .i64 b, .int .i64 c, .int .i64 d] 22)
  have hbb := blk_new w (.cells #[.int .i64 a, .int .i64 b, .int .i64 c, .int .i64 d] 22)
  obtain ⟨w1, hw1⟩ : ∃ w1, w1 = w.alloc (.cells #[.int .i64 a, .int .i64 b, .int .i64 c, .int .i64 d] 22) := ⟨_, rfl⟩
  have hz1 : w1.heap.size = w.heap.size + 1 := by rw [hw1, World.size_alloc]
  rw [← hw1] at hba hbb
  rw [← hw1, ← hz1]
  have hba2 := below_alloc (Below.refl w1.heap.size w1) (.cells Tryd.zeroCells60 60)
  have hbb2 := blk_new w1 (.cells Tryd.zeroCells60 60)
  obtain ⟨w2, hw2⟩ : ∃ w2, w2 = w1.alloc (.cells Tryd.zeroCells60 60) := ⟨_, rfl⟩
  have hz2 : w2.heap.size = w1.heap.size + 1 := by rw [hw2, World.size_alloc]
  rw [← hw2] at hba2 hbb2
  rw [← hw2, ← hz2]
  have hba3 := below_alloc (Below.refl w2.heap.size w2) (.cells Tryd.zeroCells62 62)
  have hbb3 := blk_new w2 (.cells Tryd.zeroCells62 62)
  obtain ⟨w3, hw3⟩ : ∃ w3, w3 = w2.alloc (.cells Tryd.zeroCells62 62) := ⟨_, rfl⟩
  rw [← hw3] at hba3 hbb3
  rw [← hw3]
  obtain ⟨x0, hx0⟩ : ∃ x0, x0 = w.heap.size := ⟨_, rfl⟩
  obtain ⟨E, hE⟩ : ∃ E, E = w1.heap.size := ⟨_, rfl⟩
  obtain ⟨V, hV⟩ : ∃ V, V = w2.heap.size := ⟨_, rfl⟩
  rw [← hx0] at hbb
  rw [← hE] at hbb2
  rw [← hV, z62, ← fill_zero (wv (wOf a b c d))] at hbb3
  have HAP := Aside0.mk (show x0 < E ∧ E < V ∧ w.heap.size ≤ x0 by omega)
  have HR := Aside0.mk (show R1 w w3 x0 E V a b c d 0 0 from
    ⟨below_step (below_step hba hba2) hba3, (hba3.block x0 (by omega)).trans ((hba2.block x0 (by omega)).trans hbb), ⟨_, (hba3.block E (by omega)).trans hbb2, z60, fun q j hq => absurd hq (Nat.not_lt_zero _)⟩, hbb3⟩)
  rw [← hx0, ← hE, ← hV]
  clear hba hbb hw1 hz1 hba2 hbb2 hw2 hz2 hba3 hbb3 hw3 hx0 hE hV
  go_loopw [6] (fun v6 wr => ∃ s : Nat, v6 = .int .i64 (s : Int) ∧ s ≤ 64 ∧ Aside0 (R1 w wr x0 E V a b c d (2 * s) (8 * s))) (fun v6 _ => 64 - (intOf v6).toNat)
  case atStart => exact ⟨0, by simp, by omega, HR⟩
  case round =>
    clear HR
    obtain ⟨s, rfl, hs, HR⟩ := hrel
    by_cases hlt : s < 64
    · -- CUT 1
      have hlb : decide ((s : Int) < 64) = true := decide_eq_true (by omega)
      go_wp2_with fail
      go_loopw [7] (fun v7 wr => ∃ i : Nat, v7 = .int .i64 (i : Int) ∧ i ≤ 2 ∧ Aside0 (R1 w wr x0 E V a b c d (2 * s + i) (8 * s + 4 * i))) (fun v7 _ => 2 - (intOf v7).toNat)
      case atStart => exact ⟨0, by simp, by omega, HR⟩
      case round =>
        clear HR
        obtain ⟨i, rfl, hi, HR⟩ := hrel
        by_cases hlt2 : i < 2
        · have hlb : decide ((i : Int) < 2) = true := decide_eq_true (by omega)
          have hs64 : (s : Int) < 64 := by omega
          have hi2 : (i : Int) < 2 := by omega
          have hcv : IntKind.u8.wrap (i : Int) = (i : Int) := by rw [IntKind.wrap_u8]; omega
          have HST := Aside0.mk (fun w => shuttleref07_Step.calls 20 (s : Int) (i : Int) _ _ _ _ _ _ _ w (rstep_f s i hlt hlt2))
          go_wp2_with fail
          refine start_ (n := 9) (S := (fun w' => True)) (ds := [8]) #[false, false, false, false, false, false, false, false, false] (by kernel_rfl) rfl rfl trivial (fun hHeld => ?_)
          refine with_tabW least10.tab least10.bits (fun HT_ HW_ => ?_)
          refine pure_ (i := 0) (N := some 29) (v := ?_) (a' := ?_) #[true, false, false, false, false, false, false, false, false] rfl rfl (any_of HT_.out (by kernel_rfl)) (fun _ _ _ h => h) (Or.inl ⟨by rfl, ?_⟩) ?_ ?_
          rotate_left
          · intro w'
            go_simp
            with_reducible rfl
          rotate_left
          · simp only [Act.put, List.setIfInBounds_toArray, List.set_cons_zero, List.set_cons_succ, i64_w, i32_w]
            rfl
          refine pure_ (i := 1) (N := some 30) (v := ?_) (a' := ?_) #[true, true, false, false, false, false, false, false, false] rfl rfl (any_of HT_.out (by kernel_rfl)) (fun _ _ _ h => h) (Or.inl ⟨by rfl, ?_⟩) ?_ ?_
          rotate_left
          · intro w'
            go_simp
            with_reducible rfl
          rotate_left
          · simp only [Act.put, List.setIfInBounds_toArray, List.set_cons_zero, List.set_cons_succ, i64_w, i32_w]
            rfl
          refine pure_ (i := 2) (N := some 31) (v := ?_) (a' := ?_) #[true, true, true, false, false, false, false, false, false] rfl rfl (any_of HT_.out (by kernel_rfl)) (fun _ _ _ h => h) (Or.inl ⟨by rfl, ?_⟩) ?_ ?_
          rotate_left
          · intro w'
            go_simp
            with_reducible rfl
          rotate_left
          · simp only [Act.put, List.setIfInBounds_toArray, List.set_cons_zero, List.set_cons_succ, i64_w, i32_w]
            rfl
          refine pure_ (i := 3) (N := some 32) (v := ?_) (a' := ?_) #[true, true, true, true, false, false, false, false, false] rfl rfl (any_of HT_.out (by kernel_rfl)) (fun _ _ _ h => h) (Or.inl ⟨by rfl, ?_⟩) ?_ ?_
          rotate_left
          · intro w'
            go_simp
            with_reducible rfl
          rotate_left
          · simp only [Act.put, List.setIfInBounds_toArray, List.set_cons_zero, List.set_cons_succ, i64_w, i32_w]
            rfl
          refine pure_ (i := 4) (N := some 33) (v := ?_) (a' := ?_) #[true, true, true, true, true, false, false, false, false] rfl rfl (any_of HT_.out (by kernel_rfl)) (fun _ _ _ h => h) (Or.inl ⟨by rfl, ?_⟩) ?_ ?_
          rotate_left
          · intro w'
            go_simp
            with_reducible rfl
          rotate_left
          · simp only [Act.put, List.setIfInBounds_toArray, List.set_cons_zero, List.set_cons_succ, i64_w, i32_w]
            rfl
          refine pure_ (i := 6) (N := some 35) (v := ?_) (a' := ?_) #[true, true, true, true, true, false, true, false, false] rfl rfl (any_of HT_.out (by kernel_rfl)) (fun _ _ _ h => h) (Or.inl ⟨by rfl, ?_⟩) ?_ ?_
          rotate_left
          · intro w'
            go_simp
            with_reducible rfl
          rotate_left
          · simp only [Act.put, List.setIfInBounds_toArray, List.set_cons_zero, List.set_cons_succ, i64_w, i32_w]
            rfl
          refine one_ (i := 5) (N := some 34) #[true, true, true, true, true, true, true, false, false] rfl rfl (one_of HT_.out (by kernel_rfl)) (by decide) (fun K hK => ?_)
          refine goes_ Tryd.func31 (by kernel_rfl) rfl #[.int .i64 ↑s, .int .u8 ↑i] (by rfl) rfl rfl (by (try simp only [List.map_toArray, List.map_cons, List.map_nil]); first | done | rfl | (go_simp; done) | simp [Act.eval]) ?_
          refine (HST.out _).mono ?_
          rintro e w5 ⟨rfl, hb5⟩
          refine ⟨_, rfl, ?_⟩
          refine hK.out _ _ trivial (fun hHeld => ?_)
          clear hK K
          refine norm_ (a' := ?_) ?_ ?_
          rotate_left
          · show Act.put _ (some 34) _ = _
            simp only [Act.put, List.setIfInBounds_toArray, List.set_cons_zero, List.set_cons_succ, i64_w, i32_w]
            rfl
          refine pure_ (i := 7) (N := some 36) (v := ?_) (a' := ?_) #[true, true, true, true, true, true, true, true, false] rfl rfl (any_of HT_.out (by kernel_rfl)) (fun _ _ _ h => h) (Or.inl ⟨by rfl, ?_⟩) ?_ ?_
          rotate_left
          · intro w'
            go_simp
            with_reducible rfl
          rotate_left
          · simp only [Act.put, List.setIfInBounds_toArray, List.set_cons_zero, List.set_cons_succ, i64_w, i32_w]
            rfl
          refine last_ (i := 8) (N := none) #[true, true, true, true, true, true, true, true, true] rfl rfl (one_of HT_.out (by kernel_rfl)) (by decide) (fun K hK => ?_)
          have hR5 := HR.out.below (below_step (below_drew1 (Below.refl _ _)) hb5)
          rw [eL_at s i hlt2]
          have hoff : s * 14 + i * 7 = 7 * (2 * s + i) := by omega
          rw [hoff, if_pos (by rfl)]
          refine wp_store_mid 58 (.tmp 36) (.tmp 34) rfl E (7 * (2 * s + i)) (eL (2 * s + i)).toArray (by rfl) (by rfl) (hR5.edge.there _ (by omega)) (by kernel_rfl) (eL_one _) ?_
          refine hK.out _ _ ?_
          clear hK K
          refine done_ (done_of HT_.out (by kernel_rfl)) ?_
          have hR6 := hR5.edge_put (m := 2 * s + i) (by omega) (by have := HAP.out; omega) (by have := HAP.out; omega) (by have := HAP.out; omega)
          have HR6 := Aside0.mk hR6
          clear hR5 hR6 hb5 HR HST hoff
          generalize (w5.setCells E (7 * (2 * s + i)) (eL (2 * s + i))) = w6 at HR6 ⊢
          go_wp2_with fail
          go_loopw [8] (fun v8 wr => ∃ t : Nat, v8 = .int .i64 (t : Int) ∧ t ≤ 4 ∧ Aside0 (R1 w wr x0 E V a b c d (2 * s + i + 1) (8 * s + 4 * i + t))) (fun v8 _ => 4 - (intOf v8).toNat)
          case atStart => exact ⟨0, by simp, by omega, HR6⟩
          case round =>
            clear HR6
            obtain ⟨t, rfl, ht, HR⟩ := hrel
            by_cases hlt3 : t < 4
            · have hlb : decide ((t : Int) < 4) = true := decide_eq_true (by omega)
              have ht4 : (t : Int) < 4 := by omega
              go_wp2_with fail
              have hE := fun j (hj : j < 7) => HR.out.edge.cell (2 * s + i) j (by omega) hj
              have hoff : 7 * (2 * s + i) = s * 14 + i * 7 := by omega
              have he1 : (2 * s + i) / 2 = s := by omega
              have he2 : (2 * s + i) % 2 = i := by omega
              have hv0 : s * 8 + i * 4 + t = 8 * s + 4 * i + t := by omega
              have hq1 : (8 * s + 4 * i + t) / 8 = s := by omega
              have hq2 : (8 * s + 4 * i + t) / 4 % 2 = i := by omega
              have hq3 : (8 * s + 4 * i + t) % 4 = t := by omega
              have hwe := fun w => rweigh_calls HW.out s i t hlt3 (s : Int) ((dst s i : Nat) : Int) (i : Int) w
              have hwv : wv (wOf a b c d) (8 * s + 4 * i + t) = ew (wOf a b c d) s i t := by unfold wv; rw [hq1, hq2, hq3]
              obtain ⟨x, hx⟩ : ∃ x, x = ew (wOf a b c d) s i t := ⟨_, rfl⟩
              rw [← hx] at hwe hwv
              have HWE := Aside0.mk hwe
              have HWV := Aside0.mk hwv
              obtain ⟨o0, ho0⟩ : ∃ o0, o0 = ob s i 0 := ⟨_, rfl⟩
              obtain ⟨o1, ho1⟩ : ∃ o1, o1 = ob s i 1 := ⟨_, rfl⟩
              obtain ⟨o2, ho2⟩ : ∃ o2, o2 = ob s i 2 := ⟨_, rfl⟩
              obtain ⟨o3, ho3⟩ : ∃ o3, o3 = ob s i 3 := ⟨_, rfl⟩
              obtain ⟨dd, hdd⟩ : ∃ dd, dd = dst s i := ⟨_, rfl⟩
              unfold eC at hE
              simp only [hoff, he1, he2] at hE
              rw [← ho0, ← ho1, ← ho2, ← ho3, ← hdd] at HWE
              simp only [← ho0, ← ho1, ← ho2, ← ho3, ← hdd] at hE
              have HS := Aside0.mk (show wr.drew.cell? ⟨E, s * 14 + i * 7, none⟩ = some (.int .i64 (s : Int)) ∧ wr.drew.cell? ⟨E, s * 14 + i * 7 + 1, none⟩ = some (.int .i64 (dd : Int)) ∧ wr.drew.cell? ⟨E, s * 14 + i * 7 + 2, none⟩ = some (.int .u8 (i : Int)) ∧
                  wr.drew.cell? ⟨E, s * 14 + i * 7 + 3, none⟩ = some (.int .u8 o0) ∧ wr.drew.cell? ⟨E, s * 14 + i * 7 + 4, none⟩ = some (.int .u8 o1) ∧ wr.drew.cell? ⟨E, s * 14 + i * 7 + 5, none⟩ = some (.int .u8 o2) ∧ wr.drew.cell? ⟨E, s * 14 + i * 7 + 6, none⟩ = some (.int .u8 o3) ∧
                  wr.drew.cell? ⟨x0, 0, none⟩ = some (.int .i64 a) ∧ wr.drew.cell? ⟨x0, 1, none⟩ = some (.int .i64 b) ∧ wr.drew.cell? ⟨x0, 2, none⟩ = some (.int .i64 c) ∧ wr.drew.cell? ⟨x0, 3, none⟩ = some (.int .i64 d) from
                ⟨hE 0 (by decide), hE 1 (by decide), hE 2 (by decide), hE 3 (by decide), hE 4 (by decide), hE 5 (by decide), hE 6 (by decide), blk_cell HR.out.box 0, blk_cell HR.out.box 1, blk_cell HR.out.box 2, blk_cell HR.out.box 3⟩)
              have HV0 := Aside0.mk hv0
              clear hE hoff he1 he2 hq1 hq2 hq3 hwe hwv hx ho0 ho1 ho2 ho3 hdd hv0
              refine start_ (n := 15) (S := (fun w' => w'.cell? ⟨E, s * 14 + i * 7, none⟩ = some (.int .i64 (s : Int)) ∧ w'.cell? ⟨E, s * 14 + i * 7 + 1, none⟩ = some (.int .i64 (dd : Int)) ∧ w'.cell? ⟨E, s * 14 + i * 7 + 2, none⟩ = some (.int .u8 (i : Int)) ∧ w'.cell? ⟨E, s * 14 + i * 7 + 3, none⟩ = some (.int .u8 o0) ∧ w'.cell? ⟨E, s * 14 + i * 7 + 4, none⟩ = some (.int .u8 o1) ∧ w'.cell? ⟨E, s * 14 + i * 7 + 5, none⟩ = some (.int .u8 o2) ∧ w'.cell? ⟨E, s * 14 + i * 7 + 6, none⟩ = some (.int .u8 o3) ∧ w'.cell? ⟨x0, 0, none⟩ = some (.int .i64 a) ∧ w'.cell? ⟨x0, 1, none⟩ = some (.int .i64 b) ∧ w'.cell? ⟨x0, 2, none⟩ = some (.int .i64 c) ∧ w'.cell? ⟨x0, 3, none⟩ = some (.int .i64 d))) (ds := [14]) #[false, false, false, false, false, false, false, false, false, false, false, false, false, false, false] (by kernel_rfl) rfl rfl HS.out (fun hHeld => ?_)
              refine with_tabW least14.tab least14.bits (fun HT_ HW_ => ?_)
              refine pure_ (i := 0) (N := some 41) (v := ?_) (a' := ?_) #[true, false, false, false, false, false, false, false, false, false, false, false, false, false, false] rfl rfl (any_of HT_.out (by kernel_rfl)) (fun _ _ _ h => h) (Or.inl ⟨by rfl, ?_⟩) ?_ ?_
              rotate_left
              · intro w'
                go_simp
                with_reducible rfl
              rotate_left
              · simp only [Act.put, List.setIfInBounds_toArray, List.set_cons_zero, List.set_cons_succ, i64_w, i32_w]
                rfl
              refine pure_ (i := 1) (N := some 42) (v := ?_) (a' := ?_) #[true, true, false, false, false, false, false, false, false, false, false, false, false, false, false] rfl rfl (any_of HT_.out (by kernel_rfl)) (fun _ _ _ h => h) (Or.inl ⟨by rfl, ?_⟩) ?_ ?_
              rotate_left
              · intro w'
                go_simp
                with_reducible rfl
              rotate_left
              · simp only [Act.put, List.setIfInBounds_toArray, List.set_cons_zero, List.set_cons_succ, i64_w, i32_w]
                rfl
              refine pure_ (i := 2) (N := some 43) (v := ?_) (a' := ?_) #[true, true, true, false, false, false, false, false, false, false, false, false, false, false, false] rfl rfl (any_of HT_.out (by kernel_rfl)) (fun _ _ _ h => h) (Or.inl ⟨by rfl, ?_⟩) ?_ ?_
              rotate_left
              · intro w'
                go_simp
                with_reducible rfl
              rotate_left
              · simp only [Act.put, List.setIfInBounds_toArray, List.set_cons_zero, List.set_cons_succ, i64_w, i32_w]
                rfl
              refine pure_ (i := 3) (N := some 44) (v := ?_) (a' := ?_) #[true, true, true, true, false, false, false, false, false, false, false, false, false, false, false] rfl rfl (any_of HT_.out (by kernel_rfl)) (fun _ _ _ h => h) (Or.inl ⟨by rfl, ?_⟩) ?_ ?_
              rotate_left
              · intro w'
                go_simp
                with_reducible rfl
              rotate_left
              · simp only [Act.put, List.setIfInBounds_toArray, List.set_cons_zero, List.set_cons_succ, i64_w, i32_w]
                rfl
              refine pure_ (i := 4) (N := some 45) (v := ?_) (a' := ?_) #[true, true, true, true, true, false, false, false, false, false, false, false, false, false, false] rfl rfl (any_of HT_.out (by kernel_rfl)) (fun _ _ _ h => h) (Or.inl ⟨by rfl, ?_⟩) ?_ ?_
              rotate_left
              · intro w'
                go_simp
                with_reducible rfl
              rotate_left
              · simp only [Act.put, List.setIfInBounds_toArray, List.set_cons_zero, List.set_cons_succ, i64_w, i32_w]
                rfl
              refine pure_ (i := 5) (N := some 46) (v := ?_) (a' := ?_) #[true, true, true, true, true, true, false, false, false, false, false, false, false, false, false] rfl rfl (any_of HT_.out (by kernel_rfl)) (fun _ _ _ h => h) (Or.inl ⟨by rfl, ?_⟩) ?_ ?_
              rotate_left
              · intro w'
                go_simp
                with_reducible rfl
              rotate_left
              · simp only [Act.put, List.setIfInBounds_toArray, List.set_cons_zero, List.set_cons_succ, i64_w, i32_w]
                rfl
              refine pure_ (i := 6) (N := some 47) (v := ?_) (a' := ?_) #[true, true, true, true, true, true, true, false, false, false, false, false, false, false, false] rfl rfl (any_of HT_.out (by kernel_rfl)) (fun _ _ _ h => h) (Or.inl ⟨by rfl, ?_⟩) ?_ ?_
              rotate_left
              · intro w'
                go_simp
                with_reducible rfl
              rotate_left
              · simp only [Act.put, List.setIfInBounds_toArray, List.set_cons_zero, List.set_cons_succ, i64_w, i32_w]
                rfl
              refine take_ (i := 7) (N := some 48) (v := ?_) (a' := ?_) #[true, true, true, true, true, true, true, true, false, false, false, false, false, false, false] rfl rfl (take_ofW HT_.out HW_.out (by kernel_rfl)) (fun _ _ _ h => h) (Or.inl ⟨by rfl, ?_⟩) hHeld ?_ ?_
              rotate_left
              · rintro w' ⟨s0, s1, s2, s3, s4, s5, s6, s7, s8, s9, s10⟩
                go_simp
                with_reducible rfl
              rotate_left
              · simp only [Act.put, List.setIfInBounds_toArray, List.set_cons_zero, List.set_cons_succ, i64_w, i32_w]
                rfl
              refine pure_ (i := 8) (N := some 49) (v := ?_) (a' := ?_) #[true, true, true, true, true, true, true, true, true, false, false, false, false, false, false] rfl rfl (any_of HT_.out (by kernel_rfl)) (fun _ _ _ h => h) (Or.inl ⟨by rfl, ?_⟩) ?_ ?_
              rotate_left
              · intro w'
                go_simp
                with_reducible rfl
              rotate_left
              · simp only [Act.put, List.setIfInBounds_toArray, List.set_cons_zero, List.set_cons_succ, i64_w, i32_w]
                rfl
              refine take_ (i := 9) (N := some 50) (v := ?_) (a' := ?_) #[true, true, true, true, true, true, true, true, true, true, false, false, false, false, false] rfl rfl (take_ofW HT_.out HW_.out (by kernel_rfl)) (fun _ _ _ h => h) (Or.inl ⟨by rfl, ?_⟩) hHeld ?_ ?_
              rotate_left
              · rintro w' ⟨s0, s1, s2, s3, s4, s5, s6, s7, s8, s9, s10⟩
                go_simp
                with_reducible rfl
              rotate_left
              · simp only [Act.put, List.setIfInBounds_toArray, List.set_cons_zero, List.set_cons_succ, i64_w, i32_w]
                rfl
              refine pure_ (i := 11) (N := some 52) (v := ?_) (a' := ?_) #[true, true, true, true, true, true, true, true, true, true, false, true, false, false, false] rfl rfl (any_of HT_.out (by kernel_rfl)) (fun _ _ _ h => h) (Or.inl ⟨by rfl, ?_⟩) ?_ ?_
              rotate_left
              · intro w'
                go_simp
                with_reducible rfl
              rotate_left
              · simp only [Act.put, List.setIfInBounds_toArray, List.set_cons_zero, List.set_cons_succ, i64_w, i32_w]
                rfl
              refine pure_ (i := 12) (N := some 53) (v := ?_) (a' := ?_) #[true, true, true, true, true, true, true, true, true, true, false, true, true, false, false] rfl rfl (any_of HT_.out (by kernel_rfl)) (fun _ _ _ h => h) (Or.inl ⟨by rfl, ?_⟩) ?_ ?_
              rotate_left
              · intro w'
                go_simp
                with_reducible rfl
              rotate_left
              · simp only [Act.put, List.setIfInBounds_toArray, List.set_cons_zero, List.set_cons_succ, i64_w, i32_w]
                rfl
              refine one_ (i := 10) (N := some 51) #[true, true, true, true, true, true, true, true, true, true, true, true, true, false, false] rfl rfl (one_of HT_.out (by kernel_rfl)) (by decide) (fun K hK => ?_)
              refine goes_ Tryd.func32 (by kernel_rfl) rfl #[.agg #[.int .i64 ↑s, .int .i64 ↑dd, .int .u8 ↑i, .int .u8 o0, .int .u8 o1, .int .u8 o2, .int .u8 o3], .int .i64 ↑t, .agg #[.int .i64 a, .int .i64 b, .int .i64 c, .int .i64 d]] (by rfl) rfl rfl (by (try simp only [List.map_toArray, List.map_cons, List.map_nil]); first | done | rfl | (go_simp; done) | simp [Act.eval]) ?_
              refine (HWE.out _).mono ?_
              rintro e w7 ⟨rfl, hb7⟩
              have HR7 := Aside0.mk (HR.out.below (below_step (below_drew1 (Below.refl _ _)) hb7))
              have HS7 := Aside0.mk (show w7.cell? ⟨E, s * 14 + i * 7, none⟩ = some (.int .i64 (s : Int)) ∧ w7.cell? ⟨E, s * 14 + i * 7 + 1, none⟩ = some (.int .i64 (dd : Int)) ∧ w7.cell? ⟨E, s * 14 + i * 7 + 2, none⟩ = some (.int .u8 (i : Int)) ∧ w7.cell? ⟨E, s * 14 + i * 7 + 3, none⟩ = some (.int .u8 o0) ∧ w7.cell? ⟨E, s * 14 + i * 7 + 4, none⟩ = some (.int .u8 o1) ∧ w7.cell? ⟨E, s * 14 + i * 7 + 5, none⟩ = some (.int .u8 o2) ∧ w7.cell? ⟨E, s * 14 + i * 7 + 6, none⟩ = some (.int .u8 o3) ∧ w7.cell? ⟨x0, 0, none⟩ = some (.int .i64 a) ∧ w7.cell? ⟨x0, 1, none⟩ = some (.int .i64 b) ∧ w7.cell? ⟨x0, 2, none⟩ = some (.int .i64 c) ∧ w7.cell? ⟨x0, 3, none⟩ = some (.int .i64 d) by
                have hEl : E < wr.drew.heap.size := World.block_lt_of_cell? wr.drew ⟨E, s * 14 + i * 7, none⟩ HS.out.1
                have hxl : x0 < wr.drew.heap.size := World.block_lt_of_cell? wr.drew ⟨x0, 0, none⟩ HS.out.2.2.2.2.2.2.2.1
                have kE := fun q => hb7.cell (p := ⟨E, q, none⟩) hEl
                have kx := fun q => hb7.cell (p := ⟨x0, q, none⟩) hxl
                simp only [kE, kx]
                exact HS.out)
              clear hb7
              refine ⟨_, rfl, ?_⟩
              refine hK.out _ _ HS7.out (fun hHeld => ?_)
              clear hK K
              refine norm_ (a' := ?_) ?_ ?_
              rotate_left
              · show Act.put _ (some 51) _ = _
                simp only [Act.put, List.setIfInBounds_toArray, List.set_cons_zero, List.set_cons_succ, i64_w, i32_w]
                rfl
              refine pure_ (i := 13) (N := some 54) (v := ?_) (a' := ?_) #[true, true, true, true, true, true, true, true, true, true, true, true, true, true, false] rfl rfl (any_of HT_.out (by kernel_rfl)) (fun _ _ _ h => h) (Or.inl ⟨by rfl, ?_⟩) ?_ ?_
              rotate_left
              · intro w'
                go_simp
                with_reducible rfl
              rotate_left
              · simp only [Act.put, List.setIfInBounds_toArray, List.set_cons_zero, List.set_cons_succ, i64_w, i32_w]
                rfl
              refine last_ (i := 14) (N := none) #[true, true, true, true, true, true, true, true, true, true, true, true, true, true, true] rfl rfl (one_of HT_.out (by kernel_rfl)) (by decide) (fun K hK => ?_)
              have hcg : ∃ u, w7.cell? ⟨V, s * 8 + i * 4 + t, none⟩ = some u := ⟨_, ints_cell' HR7.out.wt (s * 8 + i * 4 + t) (by rw [fill_length]; omega)⟩
              obtain ⟨u, hcg⟩ := hcg
              have hfz := blk_frozen HR7.out.wt (s * 8 + i * 4 + t)
              refine skip_ (w1 := ?_) (by rfl) rfl ?_ ?_
              rotate_left 1
              · go_simp
                rfl
              refine hK.out _ _ ?_
              clear hK K
              refine done_ (done_of HT_.out (by kernel_rfl)) ?_
              clear hcg hfz
              have hR8 := HR7.out.wt_put x HWV.out.symm (by have := HAP.out; omega) (by have := HAP.out; omega) (by have := HAP.out; omega)
              rw [← HV0.out] at hR8
              have HR8 := Aside0.mk hR8
              clear hR8 HR7 HS7 HS HR
              generalize (w7.setCell ⟨V, s * 8 + i * 4 + t, none⟩ (.int .i64 x)) = w8 at HR8 ⊢
              go_wp2_with fail
              go_roundw
              case rel =>
                have h := HR8.out
                have e : s * 8 + i * 4 + t + 1 = 8 * s + 4 * i + (t + 1) := by omega
                rw [e] at h
                exact ⟨t + 1, by simp, by omega, ⟨h⟩⟩
              case measure => simp [intOf]; omega
            · obtain rfl : t = 4 := by omega
              have hlb : decide (((4 : Nat) : Int) < 4) = false := by decide
              go_wp2_with fail
              go_roundw
              case rel => exact ⟨i + 1, by simp, by omega, ⟨HR.out⟩⟩
              case measure => simp [intOf]; omega
        · obtain rfl : i = 2 := by omega
          have hlb : decide (((2 : Nat) : Int) < 2) = false := by decide
          go_wp2_with fail
          go_roundw
          case rel => exact ⟨s + 1, by simp, by omega, ⟨HR.out⟩⟩
          case measure => simp [intOf]; omega
      -- ENDCUT 1
    · obtain rfl : s = 64 := by omega
      have hlb : decide (((64 : Nat) : Int) < 64) = false := by decide
      go_wp2_with fail
      have hbt := blk_new wr (.cells Tryd.zeroCells65 65)
      have hbx := below_alloc (Below.refl wr.heap.size wr) (.cells Tryd.zeroCells65 65)
      obtain ⟨T, hT⟩ : ∃ T, T = wr.heap.size := ⟨_, rfl⟩
      obtain ⟨w4, hw4⟩ : ∃ w4, w4 = wr.alloc (.cells Tryd.zeroCells65 65) := ⟨_, rfl⟩
      rw [← hw4] at hbt hbx
      rw [← hT, z65, ← fill_zero (fun _ => far)] at hbt
      have hR1 := HR.out.below hbx
      have HVT := Aside0.mk (show V < T by rw [hT]; exact blk_lt HR.out.wt)
      have HQ := Aside0.mk (show R2 w w4 E V T a b c d (fill (fun _ => far) 256 0 0) from ⟨hR1.bel, hR1.edge, hR1.wt, hbt⟩)
      rw [← hw4, ← hT]
      clear hbt hbx hT hw4 hR1 HR
      go_loopw [10] (fun v10 wr => ∃ s : Nat, v10 = .int .i64 (s : Int) ∧ s ≤ 64 ∧ Aside0 (R2 w wr E V T a b c d (fill (fun _ => far) 256 0 (4 * s)))) (fun v10 _ => 64 - (intOf v10).toNat)
      case atStart => exact ⟨0, by simp, by omega, HQ⟩
      case round =>
        clear HQ
        obtain ⟨s, rfl, hs2, HQ⟩ := hrel
        by_cases hlt : s < 64
        · -- CUT 2
          have hlb : decide ((s : Int) < 64) = true := decide_eq_true (by omega)
          have hs64 : (s : Int) < 64 := by omega
          go_wp2_with fail
          go_loopw [11] (fun v11 wr => ∃ t : Nat, v11 = .int .i64 (t : Int) ∧ t ≤ 4 ∧ Aside0 (R2 w wr E V T a b c d (fill (fun _ => far) 256 0 (4 * s + t)))) (fun v11 _ => 4 - (intOf v11).toNat)
          case atStart => exact ⟨0, by simp, by omega, HQ⟩
          case round =>
            clear HQ
            obtain ⟨t, rfl, ht, HQ⟩ := hrel
            by_cases hlt2 : t < 4
            · have hlb : decide ((t : Int) < 4) = true := decide_eq_true (by omega)
              have ht4 : (t : Int) < 4 := by omega
              have hcg : ∃ u, wr.cell? ⟨T, s * 4 + t, none⟩ = some u := ⟨_, ints_cell' HQ.out.at_ (s * 4 + t) (by rw [fill_length]; omega)⟩
              obtain ⟨u, hcg⟩ := hcg
              have hfz := blk_frozen HQ.out.at_ (s * 4 + t)
              go_wp2_with fail
              have hQ2 := HQ.out.put (s * 4 + t) far (by have := HAP.out; have := HVT.out; omega) (by have := HAP.out; have := HVT.out; omega) (by have := HVT.out; omega)
              have e : s * 4 + t = 4 * s + t := by omega
              rw [show (fill (fun _ => far) 256 0 (4 * s + t)).set (s * 4 + t) far = fill (fun _ => far) 256 0 (4 * s + t + 1) by rw [e]; exact fill_set (fun _ => far) 256 0 (4 * s + t)] at hQ2
              have HQ2 := Aside0.mk hQ2
              clear e hQ2 hcg hfz HQ
              go_roundw
              case rel => exact ⟨t + 1, by simp, by omega, HQ2⟩
              case measure => simp [intOf]; omega
            · obtain rfl : t = 4 := by omega
              have hlb : decide (((4 : Nat) : Int) < 4) = false := by decide
              go_wp2_with fail
              go_roundw
              case rel => exact ⟨s + 1, by simp, by omega, ⟨HQ.out⟩⟩
              case measure => simp [intOf]; omega
          -- ENDCUT 2
        · obtain rfl : s = 64 := by omega
          have hlb : decide (((64 : Nat) : Int) < 64) = false := by decide
          go_wp2_with fail
          go_loopw [12] (fun v12 wr => ∃ (t : Nat) (L : List Int), v12 = .int .i64 (t : Int) ∧ t ≤ 4 ∧ Aside0 (R2 w wr E V T a b c d L) ∧ Aside0 (LI (wOf a b c d) L ∧ FI (wOf a b c d) L t)) (fun v12 _ => 4 - (intOf v12).toNat)
          case atStart => exact ⟨0, _, by simp, by omega, HQ, ⟨LI.start _ _ (fill_length _ _ _ _) (fun q hq => fill_get _ _ _ _ _ hq (by omega)), fun t ht => absurd ht (Nat.not_lt_zero _)⟩⟩
          case round =>
            clear HQ
            obtain ⟨t, L, rfl, ht, HQ, HLI⟩ := hrel
            by_cases hlt2 : t < 4
            · -- CUT 3
              have hlb : decide ((t : Int) < 4) = true := decide_eq_true (by omega)
              have ht4 : (t : Int) < 4 := by omega
              have hE := fun j (hj : j < 7) => HQ.out.edge.cell 1 j (by omega) hj
              have hE0 : wr.cell? ⟨E, 7, none⟩ = _ := hE 0 (by decide)
              have hE1 : wr.cell? ⟨E, 8, none⟩ = _ := hE 1 (by decide)
              have hE2 : wr.cell? ⟨E, 9, none⟩ = _ := hE 2 (by decide)
              have hE3 : wr.cell? ⟨E, 10, none⟩ = _ := hE 3 (by decide)
              have hE4 : wr.cell? ⟨E, 11, none⟩ = _ := hE 4 (by decide)
              have hE5 : wr.cell? ⟨E, 12, none⟩ = _ := hE 5 (by decide)
              have hE6 : wr.cell? ⟨E, 13, none⟩ = _ := hE 6 (by decide)
              clear hE
              go_wp2_with (first
                | ((with_reducible refine gate_ (.store 58 (.tmp 13) (.tmp 74)) rfl ?_); refine Aside0.out ?_)
                | fail)
              refine Aside0.mk ?_
              obtain ⟨q1, q2, q3⟩ := ebox wr 1
              refine wpList_store_mid rfl 58 (.tmp 13) (.tmp 74) rfl wr.heap.size 0 (eL 1).toArray (by rfl) (by rfl) q1 (by kernel_rfl) (eL_one _) ?_
              have hQ5 := HQ.out.below q2
              have hc1 := q3 1 (by decide)
              have hBl : wr.heap.size < ((wr.alloc (.cells z58 58)).setCells wr.heap.size 0 (eL 1)).heap.size := World.block_lt_of_cell? _ ⟨wr.heap.size, 1, none⟩ hc1
              have hBT : wr.heap.size ≠ T := by have := blk_lt HQ.out.at_; omega
              clear q1 q2 q3 hE0 hE1 hE2 hE3 hE4 hE5 hE6
              obtain ⟨B, hB⟩ : ∃ B, B = wr.heap.size := ⟨_, rfl⟩
              rw [← hB] at hc1 hBl hBT hQ5 ⊢
              obtain ⟨w5, hw5⟩ : ∃ w5, w5 = ((wr.alloc (.cells z58 58)).setCells B 0 (eL 1)) := ⟨_, rfl⟩
              rw [← hw5] at hc1 hBl hQ5
              have HQ5 := Aside0.mk hQ5
              have HC1 := Aside0.mk hc1
              have HBT := Aside0.mk hBT
              show wpList _ _ _ _ _ ((wr.alloc (.cells z58 58)).setCells B 0 (eL 1))
              rw [← hw5]
              clear hw5 hB hBT hc1 hQ5 HQ
              rw [put_none]
              go_wp2_with fail
              have hu1 := nx_e t
              have hu2 := nx_t t
              have hu3 : (nx t : Int) < 4 := by have := nx_lt t; omega
              obtain ⟨u, hu⟩ : ∃ u, u = nx t := ⟨_, rfl⟩
              have hu4 := nx_w t hlt2
              rw [← hu] at hu1 hu2 hu3 hu4
              have HU := Aside0.mk hu
              obtain ⟨y, hy⟩ : ∃ y, y = L.getD (128 + u) 0 := ⟨_, rfl⟩
              obtain ⟨z, hz⟩ : ∃ z, z = ew (wOf a b c d) 0 1 t := ⟨_, rfl⟩
              have HYZ := Aside0.mk (And.intro hy hz)
              have hLl : L.length = 256 := HLI.out.1.len
              have hq1 : (4 + t) / 8 = 0 := by omega
              have hq2 : (4 + t) / 4 % 2 = 1 := by omega
              have hq3 : (4 + t) % 4 = t := by omega
              have HS := Aside0.mk (show w5.drew.cell? ⟨B, 1, none⟩ = some (.int .i64 32) ∧ w5.drew.cell? ⟨T, 128 + u, none⟩ = some (.int .i64 y) ∧ w5.drew.cell? ⟨V, 4 + t, none⟩ = some (.int .i64 z) from
                ⟨HC1.out, by rw [hy]; exact ints_cell' HQ5.out.at_ (128 + u) (by omega), by
                  have h := ints_cell' HQ5.out.wt (4 + t) (by rw [fill_length]; omega)
                  rw [fill_get _ _ _ _ _ (by omega) (by omega)] at h
                  unfold wv at h
                  rw [hq1, hq2, hq3, ← hz] at h
                  exact h⟩)
              clear hu hy hz hLl hq1 hq2 hq3
              refine start_ (n := 22) (S := (fun w' => w'.cell? ⟨B, 1, none⟩ = some (.int .i64 32) ∧ w'.cell? ⟨T, 128 + u, none⟩ = some (.int .i64 y) ∧ w'.cell? ⟨V, 4 + t, none⟩ = some (.int .i64 z))) (ds := [21]) #[false, false, false, false, false, false, false, false, false, false, false, false, false, false, false, false, false, false, false, false, false, false] (by kernel_rfl) rfl rfl HS.out (fun hHeld => ?_)
              refine with_tabW least27.tab least27.bits (fun HT_ HW_ => ?_)
              refine pure_ (i := 0) (N := some 75) (v := ?_) (a' := ?_) #[true, false, false, false, false, false, false, false, false, false, false, false, false, false, false, false, false, false, false, false, false, false] rfl rfl (any_of HT_.out (by kernel_rfl)) (fun _ _ _ h => h) (Or.inl ⟨by rfl, ?_⟩) ?_ ?_
              rotate_left
              · intro w'
                go_simp
                with_reducible rfl
              rotate_left
              · simp only [Act.put, List.setIfInBounds_toArray, List.set_cons_zero, List.set_cons_succ, i64_w, i32_w]
                rfl
              refine take_ (i := 1) (N := some 76) (v := ?_) (a' := ?_) #[true, true, false, false, false, false, false, false, false, false, false, false, false, false, false, false, false, false, false, false, false, false] rfl rfl (take_ofW HT_.out HW_.out (by kernel_rfl)) (fun _ _ _ h => h) (Or.inl ⟨by rfl, ?_⟩) hHeld ?_ ?_
              rotate_left
              · rintro w' ⟨s0, s1, s2⟩
                go_simp
                with_reducible rfl
              rotate_left
              · simp only [Act.put, List.setIfInBounds_toArray, List.set_cons_zero, List.set_cons_succ, i64_w, i32_w]
                rfl
              refine pure_ (i := 2) (N := some 77) (v := ?_) (a' := ?_) #[true, true, true, false, false, false, false, false, false, false, false, false, false, false, false, false, false, false, false, false, false, false] rfl rfl (any_of HT_.out (by kernel_rfl)) (fun _ _ _ h => h) (Or.inl ⟨by rfl, ?_⟩) ?_ ?_
              rotate_left
              · intro w'
                go_simp
                with_reducible rfl
              rotate_left
              · simp only [Act.put, List.setIfInBounds_toArray, List.set_cons_zero, List.set_cons_succ, i64_w, i32_w]
                rfl
              refine pure_ (i := 3) (N := some 78) (v := ?_) (a' := ?_) #[true, true, true, true, false, false, false, false, false, false, false, false, false, false, false, false, false, false, false, false, false, false] rfl rfl (any_of HT_.out (by kernel_rfl)) (fun _ _ _ h => h) (Or.inl ⟨by rfl, ?_⟩) ?_ ?_
              rotate_left
              · intro w'
                go_simp
                with_reducible rfl
              rotate_left
              · simp only [Act.put, List.setIfInBounds_toArray, List.set_cons_zero, List.set_cons_succ, i64_w, i32_w]
                rfl
              refine pure_ (i := 4) (N := some 79) (v := ?_) (a' := ?_) #[true, true, true, true, true, false, false, false, false, false, false, false, false, false, false, false, false, false, false, false, false, false] rfl rfl (any_of HT_.out (by kernel_rfl)) (fun _ _ _ h => h) (Or.inl ⟨by rfl, ?_⟩) ?_ ?_
              rotate_left
              · intro w'
                go_simp
                with_reducible rfl
              rotate_left
              · simp only [Act.put, List.setIfInBounds_toArray, List.set_cons_zero, List.set_cons_succ, i64_w, i32_w]
                rfl
              refine pure_ (i := 5) (N := some 80) (v := ?_) (a' := ?_) #[true, true, true, true, true, true, false, false, false, false, false, false, false, false, false, false, false, false, false, false, false, false] rfl rfl (any_of HT_.out (by kernel_rfl)) (fun _ _ _ h => h) (Or.inl ⟨by rfl, ?_⟩) ?_ ?_
              rotate_left
              · intro w'
                go_simp
                with_reducible rfl
              rotate_left
              · simp only [Act.put, List.setIfInBounds_toArray, List.set_cons_zero, List.set_cons_succ, i64_w, i32_w]
                rfl
              refine take_ (i := 6) (N := some 81) (v := ?_) (a' := ?_) #[true, true, true, true, true, true, true, false, false, false, false, false, false, false, false, false, false, false, false, false, false, false] rfl rfl (take_ofW HT_.out HW_.out (by kernel_rfl)) (fun _ _ _ h => h) (Or.inl ⟨by rfl, ?_⟩) hHeld ?_ ?_
              rotate_left
              · rintro w' ⟨s0, s1, s2⟩
                go_simp
                with_reducible rfl
              rotate_left
              · simp only [Act.put, List.setIfInBounds_toArray, List.set_cons_zero, List.set_cons_succ, i64_w, i32_w]
                rfl
              refine pure_ (i := 7) (N := some 82) (v := ?_) (a' := ?_) #[true, true, true, true, true, true, true, true, false, false, false, false, false, false, false, false, false, false, false, false, false, false] rfl rfl (any_of HT_.out (by kernel_rfl)) (fun _ _ _ h => h) (Or.inl ⟨by rfl, ?_⟩) ?_ ?_
              rotate_left
              · intro w'
                go_simp
                with_reducible rfl
              rotate_left
              · simp only [Act.put, List.setIfInBounds_toArray, List.set_cons_zero, List.set_cons_succ, i64_w, i32_w]
                rfl
              refine pure_ (i := 8) (N := some 83) (v := ?_) (a' := ?_) #[true, true, true, true, true, true, true, true, true, false, false, false, false, false, false, false, false, false, false, false, false, false] rfl rfl (any_of HT_.out (by kernel_rfl)) (fun _ _ _ h => h) (Or.inl ⟨by rfl, ?_⟩) ?_ ?_
              rotate_left
              · intro w'
                go_simp
                with_reducible rfl
              rotate_left
              · simp only [Act.put, List.setIfInBounds_toArray, List.set_cons_zero, List.set_cons_succ, i64_w, i32_w]
                rfl
              refine pure_ (i := 9) (N := some 84) (v := ?_) (a' := ?_) #[true, true, true, true, true, true, true, true, true, true, false, false, false, false, false, false, false, false, false, false, false, false] rfl rfl (any_of HT_.out (by kernel_rfl)) (fun _ _ _ h => h) (Or.inl ⟨by rfl, ?_⟩) ?_ ?_
              rotate_left
              · intro w'
                go_simp
                with_reducible rfl
              rotate_left
              · simp only [Act.put, List.setIfInBounds_toArray, List.set_cons_zero, List.set_cons_succ, i64_w, i32_w]
                rfl
              refine pure_ (i := 10) (N := some 85) (v := ?_) (a' := ?_) #[true, true, true, true, true, true, true, true, true, true, true, false, false, false, false, false, false, false, false, false, false, false] rfl rfl (any_of HT_.out (by kernel_rfl)) (fun _ _ _ h => h) (Or.inl ⟨by rfl, ?_⟩) ?_ ?_
              rotate_left
              · intro w'
                go_simp
                with_reducible rfl
              rotate_left
              · simp only [Act.put, List.setIfInBounds_toArray, List.set_cons_zero, List.set_cons_succ, i64_w, i32_w]
                rfl
              refine pure_ (i := 11) (N := some 86) (v := ?_) (a' := ?_) #[true, true, true, true, true, true, true, true, true, true, true, true, false, false, false, false, false, false, false, false, false, false] rfl rfl (any_of HT_.out (by kernel_rfl)) (fun _ _ _ h => h) (Or.inl ⟨by rfl, ?_⟩) ?_ ?_
              rotate_left
              · intro w'
                go_simp
                with_reducible rfl
              rotate_left
              · simp only [Act.put, List.setIfInBounds_toArray, List.set_cons_zero, List.set_cons_succ, i64_w, i32_w]
                rfl
              refine take_ (i := 12) (N := some 87) (v := ?_) (a' := ?_) #[true, true, true, true, true, true, true, true, true, true, true, true, true, false, false, false, false, false, false, false, false, false] rfl rfl (take_ofW HT_.out HW_.out (by kernel_rfl)) (fun _ _ _ h => h) (Or.inl ⟨by rfl, ?_⟩) hHeld ?_ ?_
              rotate_left
              · rintro w' ⟨s0, s1, s2⟩
                go_simp
                with_reducible rfl
              rotate_left
              · simp only [Act.put, List.setIfInBounds_toArray, List.set_cons_zero, List.set_cons_succ, i64_w, i32_w]
                rfl
              refine pure_ (i := 13) (N := some 88) (v := ?_) (a' := ?_) #[true, true, true, true, true, true, true, true, true, true, true, true, true, true, false, false, false, false, false, false, false, false] rfl rfl (any_of HT_.out (by kernel_rfl)) (fun _ _ _ h => h) (Or.inl ⟨by rfl, ?_⟩) ?_ ?_
              rotate_left
              · intro w'
                go_simp
                with_reducible rfl
              rotate_left
              · simp only [Act.put, List.setIfInBounds_toArray, List.set_cons_zero, List.set_cons_succ, i64_w, i32_w]
                rfl
              refine pure_ (i := 14) (N := some 89) (v := ?_) (a' := ?_) #[true, true, true, true, true, true, true, true, true, true, true, true, true, true, true, false, false, false, false, false, false, false] rfl rfl (any_of HT_.out (by kernel_rfl)) (fun _ _ _ h => h) (Or.inl ⟨by rfl, ?_⟩) ?_ ?_
              rotate_left
              · intro w'
                go_simp
                with_reducible rfl
              rotate_left
              · simp only [Act.put, List.setIfInBounds_toArray, List.set_cons_zero, List.set_cons_succ, i64_w, i32_w]
                rfl
              refine pure_ (i := 15) (N := some 90) (v := ?_) (a' := ?_) #[true, true, true, true, true, true, true, true, true, true, true, true, true, true, true, true, false, false, false, false, false, false] rfl rfl (any_of HT_.out (by kernel_rfl)) (fun _ _ _ h => h) (Or.inl ⟨by rfl, ?_⟩) ?_ ?_
              rotate_left
              · intro w'
                go_simp
                with_reducible rfl
              rotate_left
              · simp only [Act.put, List.setIfInBounds_toArray, List.set_cons_zero, List.set_cons_succ, i64_w, i32_w]
                rfl
              refine pure_ (i := 16) (N := some 91) (v := ?_) (a' := ?_) #[true, true, true, true, true, true, true, true, true, true, true, true, true, true, true, true, true, false, false, false, false, false] rfl rfl (any_of HT_.out (by kernel_rfl)) (fun _ _ _ h => h) (Or.inl ⟨by rfl, ?_⟩) ?_ ?_
              rotate_left
              · intro w'
                go_simp
                with_reducible rfl
              rotate_left
              · simp only [Act.put, List.setIfInBounds_toArray, List.set_cons_zero, List.set_cons_succ, i64_w, i32_w]
                rfl
              refine take_ (i := 17) (N := some 92) (v := ?_) (a' := ?_) #[true, true, true, true, true, true, true, true, true, true, true, true, true, true, true, true, true, true, false, false, false, false] rfl rfl (take_ofW HT_.out HW_.out (by kernel_rfl)) (fun _ _ _ h => h) (Or.inl ⟨by rfl, ?_⟩) hHeld ?_ ?_
              rotate_left
              · rintro w' ⟨s0, s1, s2⟩
                go_simp
                with_reducible rfl
              rotate_left
              · simp only [Act.put, List.setIfInBounds_toArray, List.set_cons_zero, List.set_cons_succ, i64_w, i32_w]
                rfl
              refine pure_ (i := 18) (N := some 93) (v := ?_) (a' := ?_) #[true, true, true, true, true, true, true, true, true, true, true, true, true, true, true, true, true, true, true, false, false, false] rfl rfl (any_of HT_.out (by kernel_rfl)) (fun _ _ _ h => h) (Or.inl ⟨by rfl, ?_⟩) ?_ ?_
              rotate_left
              · intro w'
                go_simp
                with_reducible rfl
              rotate_left
              · simp only [Act.put, List.setIfInBounds_toArray, List.set_cons_zero, List.set_cons_succ, i64_w, i32_w]
                rfl
              refine pure_ (i := 19) (N := some 94) (v := ?_) (a' := ?_) #[true, true, true, true, true, true, true, true, true, true, true, true, true, true, true, true, true, true, true, true, false, false] rfl rfl (any_of HT_.out (by kernel_rfl)) (fun _ _ _ h => h) (Or.inl ⟨by rfl, ?_⟩) ?_ ?_
              rotate_left
              · intro w'
                go_simp
                with_reducible rfl
              rotate_left
              · simp only [Act.put, List.setIfInBounds_toArray, List.set_cons_zero, List.set_cons_succ, i64_w, i32_w]
                rfl
              refine pure_ (i := 20) (N := some 95) (v := ?_) (a' := ?_) #[true, true, true, true, true, true, true, true, true, true, true, true, true, true, true, true, true, true, true, true, true, false] rfl rfl (any_of HT_.out (by kernel_rfl)) (fun _ _ _ h => h) (Or.inl ⟨by rfl, ?_⟩) ?_ ?_
              rotate_left
              · intro w'
                go_simp
                with_reducible rfl
              rotate_left
              · simp only [Act.put, List.setIfInBounds_toArray, List.set_cons_zero, List.set_cons_succ, i64_w, i32_w]
                rfl
              refine last_ (i := 21) (N := none) #[true, true, true, true, true, true, true, true, true, true, true, true, true, true, true, true, true, true, true, true, true, true] rfl rfl (one_of HT_.out (by kernel_rfl)) (by decide) (fun K hK => ?_)
              have hcg := HS.out.2.1
              have hfz := blk_frozen (HQ5.out.below (below_drew1 (Below.refl _ _))).at_ (128 + u)
              refine skip_ (w1 := ?_) (by rfl) rfl ?_ ?_
              rotate_left 1
              · go_simp
                rfl
              refine hK.out _ _ ?_
              clear hK K
              refine done_ (done_of HT_.out (by kernel_rfl)) ?_
              clear hcg hfz
              obtain ⟨v, hv⟩ : ∃ v, v = if z < y then z else y := ⟨_, rfl⟩
              rw [← hv]
              have hQ6 := HQ5.out.put (128 + u) v (by have := HAP.out; have := HVT.out; omega) (by have := HAP.out; have := HVT.out; omega) (by have := HVT.out; omega)
              have hLF := first_put HW.out hlt2 HLI.out.1 HLI.out.2 v (by rw [hv, HYZ.out.1, HYZ.out.2, HU.out])
              rw [← HU.out] at hLF
              have HQ6 := Aside0.mk (hQ6.below (below_drew1 (Below.refl _ _)))
              have HLF := Aside0.mk hLF
              clear hv hQ6 hLF HQ5 HS HLI HYZ
              generalize (w5.setCell ⟨T, 128 + u, none⟩ (.int .i64 v)).drew = w6 at HQ6 ⊢
              go_wp2_with fail
              go_roundw
              case rel => exact ⟨t + 1, _, by simp, by omega, HQ6, HLF⟩
              case measure => simp [intOf]; omega
              -- ENDCUT 3
            · obtain rfl : t = 4 := by omega
              have hlb : decide (((4 : Nat) : Int) < 4) = false := by decide
              go_wp2_with fail
              go_loopw [14, 15] (fun v14 v15 wr => ∃ (ch : Bool) (L : List Int) (best : Int), v14 = .int .i64 best ∧ v15 = .bool ch ∧ Aside0 (R2 w wr E V T a b c d L) ∧ Aside0 (MI (wOf a b c d) L best) ∧ Aside0 (ch = false → ClosedTo (wOf a b c d) L best 512)) (fun _ v15 wr => 2 * msr wr T + chN v15)
              case atStart => exact ⟨true, L, far, rfl, rfl, HQ, ⟨HLI.out.1, HLI.out.2, .inl rfl⟩, ⟨fun h => by cases h⟩⟩
              case round =>
                clear HQ HLI
                obtain ⟨ch, L, best, rfl, rfl, HQ, HM, HC⟩ := hrel
                cases ch with
                | false =>
                  obtain ⟨n, hn, hl⟩ := least_of HW.out HM.out (HC.out rfl)
                  subst hn
                  have HLEAST := Aside0.mk hl
                  clear hl HC HM
                  go_wp2_with fail
                  go_ret
                  exact ⟨n, by simp, HLEAST.out, HQ.out.bel⟩
                | true =>
                  clear HC
                  have HML := Aside0.mk (msr_ints HQ.out.at_)
                  go_wp2_with fail
                  obtain ⟨L0, hL0⟩ : ∃ L0, L0 = L := ⟨_, rfl⟩
                  rw [← hL0] at HML
                  have hsw : SW (wOf a b c d) false L0 L best (8 * 1) := .inr ⟨rfl, hL0.symm, fun s' t' i' h1 h2 h3 h4 h5 => by omega⟩
                  have HSW := Aside0.mk hsw
                  clear hL0 hsw
                  go_loopw [14, 15, 16] (fun v14 v15 v16 wr => ∃ (ch : Bool) (L : List Int) (best : Int) (s : Nat), v14 = .int .i64 best ∧ v15 = .bool ch ∧ v16 = .int .i64 (s : Int) ∧ 1 ≤ s ∧ s ≤ 64 ∧ Aside0 (R2 w wr E V T a b c d L) ∧ Aside0 (MI (wOf a b c d) L best) ∧ Aside0 (SW (wOf a b c d) ch L0 L best (8 * s))) (fun _ _ v16 _ => 64 - (intOf v16).toNat)
                  case atStart => exact ⟨false, L, best, 1, rfl, rfl, by simp, by omega, by omega, HQ, HM, HSW⟩
                  case round =>
                    clear HQ HM HSW
                    obtain ⟨ch, L, best, s, rfl, rfl, rfl, hs1, hs64, HQ, HM, HSW⟩ := hrel
                    by_cases hlt : s < 64
                    · have hlb : decide ((s : Int) < 64) = true := decide_eq_true (by omega)
                      have hs64' : (s : Int) < 64 := by omega
                      go_wp2_with fail
                      go_loopw [14, 15, 17] (fun v14 v15 v17 wr => ∃ (ch : Bool) (L : List Int) (best : Int) (t : Nat), v14 = .int .i64 best ∧ v15 = .bool ch ∧ v17 = .int .i64 (t : Int) ∧ t ≤ 4 ∧ Aside0 (R2 w wr E V T a b c d L) ∧ Aside0 (MI (wOf a b c d) L best) ∧ Aside0 (SW (wOf a b c d) ch L0 L best (8 * s + 2 * t))) (fun _ _ v17 _ => 4 - (intOf v17).toNat)
                      case atStart => exact ⟨ch, L, best, 0, rfl, rfl, by simp, by omega, HQ, HM, HSW⟩
                      case round =>
                        clear HQ HM HSW
                        obtain ⟨ch, L, best, t, rfl, rfl, rfl, ht, HQ, HM, HSW⟩ := hrel
                        by_cases hlt2 : t < 4
                        · have hlb : decide ((t : Int) < 4) = true := decide_eq_true (by omega)
                          have ht4 : (t : Int) < 4 := by omega
                          have hLl : L.length = 256 := HM.out.li.len
                          obtain ⟨y, hy⟩ : ∃ y, y = L.getD (4 * s + t) 0 := ⟨_, rfl⟩
                          have hcy : wr.cell? ⟨T, s * 4 + t, none⟩ = some (.int .i64 y) := by
                            have h := ints_cell' HQ.out.at_ (4 * s + t) (by omega)
                            rw [← hy] at h
                            have e : s * 4 + t = 4 * s + t := by omega
                            rw [e]; exact h
                          have hyl := (HM.out.li.le s t hlt hlt2)
                          rw [← hy] at hyl
                          have HY := Aside0.mk hy
                          have HYL := Aside0.mk hyl
                          clear hLl hy hyl
                          by_cases hyf : y = 1073741824
                          · subst hyf
                            have HSW2 := Aside0.mk (HSW.out.skip hlt2 HY.out.symm)
                            clear HSW HY HYL
                            go_wp2_with fail
                            go_roundw
                            case rel => exact ⟨ch, L, best, t + 1, rfl, rfl, by simp, by omega, HQ, HM, HSW2⟩
                            case measure => simp [intOf]; omega
                          · have hyb : (y == 1073741824) = false := beq_eq_false_iff_ne.mpr hyf
                            have HK := Aside0.mk (show L.getD (4 * s + t) 0 < far by have h := HYL.out; rw [← HY.out]; have hf : far = 1073741824 := rfl; omega)
                            go_wp2_with fail
                            clear hcy hyf hyb HY HYL
                            go_loopw [14, 15, 18] (fun v14 v15 v18 wr => ∃ (ch : Bool) (L : List Int) (best : Int) (i : Nat), v14 = .int .i64 best ∧ v15 = .bool ch ∧ v18 = .int .i64 (i : Int) ∧ i ≤ 2 ∧ Aside0 (R2 w wr E V T a b c d L) ∧ Aside0 (MI (wOf a b c d) L best) ∧ Aside0 (SW (wOf a b c d) ch L0 L best (8 * s + 2 * t + i)) ∧ Aside0 (L.getD (4 * s + t) 0 < far)) (fun _ _ v18 _ => 2 - (intOf v18).toNat)
                            case atStart => exact ⟨ch, L, best, 0, rfl, rfl, by simp, by omega, HQ, HM, HSW, HK⟩
                            case round =>
                              clear HQ HM HSW HK
                              obtain ⟨ch, L, best, i, rfl, rfl, rfl, hi, HQ, HM, HSW, HK⟩ := hrel
                              by_cases hlt3 : i < 2
                              · have hlb : decide ((i : Int) < 2) = true := decide_eq_true (by omega)
                                have hi2 : (i : Int) < 2 := by omega
                                have hE := fun j (hj : j < 7) => HQ.out.edge.cell (2 * s + i) j (by omega) hj
                                have hoff : 7 * (2 * s + i) = s * 14 + i * 7 := by omega
                                have hE0 : wr.cell? ⟨E, s * 14 + i * 7, none⟩ = some (eC (2 * s + i) 0) := by rw [← hoff]; exact hE 0 (by decide)
                                have hE1 : wr.cell? ⟨E, s * 14 + i * 7 + 1, none⟩ = some (eC (2 * s + i) 1) := by rw [← hoff]; exact hE 1 (by decide)
                                have hE2 : wr.cell? ⟨E, s * 14 + i * 7 + 2, none⟩ = some (eC (2 * s + i) 2) := by rw [← hoff]; exact hE 2 (by decide)
                                have hE3 : wr.cell? ⟨E, s * 14 + i * 7 + 3, none⟩ = some (eC (2 * s + i) 3) := by rw [← hoff]; exact hE 3 (by decide)
                                have hE4 : wr.cell? ⟨E, s * 14 + i * 7 + 4, none⟩ = some (eC (2 * s + i) 4) := by rw [← hoff]; exact hE 4 (by decide)
                                have hE5 : wr.cell? ⟨E, s * 14 + i * 7 + 5, none⟩ = some (eC (2 * s + i) 5) := by rw [← hoff]; exact hE 5 (by decide)
                                have hE6 : wr.cell? ⟨E, s * 14 + i * 7 + 6, none⟩ = some (eC (2 * s + i) 6) := by rw [← hoff]; exact hE 6 (by decide)
                                clear hE hoff
                                go_wp2_with (first
                                  | ((with_reducible refine gate_ (.store 58 (.tmp 19) (.tmp 121)) rfl ?_); refine Aside0.out ?_)
                                  | fail)
                                refine Aside0.mk ?_
                                obtain ⟨q1, q2, q3⟩ := ebox wr (2 * s + i)
                                refine wpList_store_mid rfl 58 (.tmp 19) (.tmp 121) rfl wr.heap.size 0 (eL (2 * s + i)).toArray (by rfl) (by rfl) q1 (by kernel_rfl) (eL_one _) ?_
                                have hQ5 := HQ.out.below q2
                                have hc1 := q3 1 (by decide)
                                have hBT : wr.heap.size ≠ T := by have := blk_lt HQ.out.at_; omega
                                clear q1 q2 q3 hE0 hE1 hE2 hE3 hE4 hE5 hE6
                                obtain ⟨B, hB⟩ : ∃ B, B = wr.heap.size := ⟨_, rfl⟩
                                rw [← hB] at hc1 hBT hQ5 ⊢
                                obtain ⟨w5, hw5⟩ : ∃ w5, w5 = ((wr.alloc (.cells z58 58)).setCells B 0 (eL (2 * s + i))) := ⟨_, rfl⟩
                                rw [← hw5] at hc1 hQ5
                                have he1 : (2 * s + i) / 2 = s := by omega
                                have he2 : (2 * s + i) % 2 = i := by omega
                                have hc2 : w5.cell? ⟨B, 1, none⟩ = some (.int .i64 ((dst s i : Nat) : Int)) := by rw [hc1]; unfold eC; rw [he1, he2]; rfl
                                have hdl : dst s i < 64 := by unfold dst; omega
                                have HQ5 := Aside0.mk hQ5
                                have HBT := Aside0.mk hBT
                                show wpList _ _ _ _ _ ((wr.alloc (.cells z58 58)).setCells B 0 (eL (2 * s + i)))
                                rw [← hw5, put_none]
                                clear hw5 hB hBT hc1 hQ5 HQ he1 he2
                                go_wp2_with fail
                                obtain ⟨y, hy⟩ : ∃ y, y = L.getD (4 * s + t) 0 := ⟨_, rfl⟩
                                obtain ⟨z, hz⟩ : ∃ z, z = ew (wOf a b c d) s i t := ⟨_, rfl⟩
                                obtain ⟨D, hD⟩ : ∃ D, D = dst s i := ⟨_, rfl⟩
                                rw [← hD] at hc2 hdl
                                have hLl : L.length = 256 := HM.out.li.len
                                have hq1 : (8 * s + 4 * i + t) / 8 = s := by omega
                                have hq2 : (8 * s + 4 * i + t) / 4 % 2 = i := by omega
                                have hq3 : (8 * s + 4 * i + t) % 4 = t := by omega
                                have hq4 : s * 8 + i * 4 + t = 8 * s + 4 * i + t := by omega
                                have hq5 : s * 4 + t = 4 * s + t := by omega
                                have hcT : w5.drew.cell? ⟨T, s * 4 + t, none⟩ = some (.int .i64 y) := by rw [hy, hq5]; exact ints_cell' HQ5.out.at_ (4 * s + t) (by omega)
                                have hcV : w5.drew.cell? ⟨V, s * 8 + i * 4 + t, none⟩ = some (.int .i64 z) := by
                                  have h := ints_cell' HQ5.out.wt (8 * s + 4 * i + t) (by rw [fill_length]; omega)
                                  rw [fill_get _ _ _ _ _ (by omega) (by omega)] at h
                                  unfold wv at h
                                  rw [hq1, hq2, hq3, ← hz, ← hq4] at h
                                  exact h
                                have HS := Aside0.mk (And.intro hcT hcV)
                                have hyl := (HM.out.li.le s t hlt hlt2)
                                have hzl := ew_in HW.out s i t
                                rw [← hy] at hyl
                                rw [← hz] at hzl
                                have hf : far = 1073741824 := rfl
                                have hwz : wrap64 (y + z) = y + z := wrap_small (by omega) (by omega)
                                have HYZ := Aside0.mk (And.intro hy (And.intro hz hD))
                                clear hy hz hD hLl hq1 hq2 hq3 hq4 hq5 hcT hcV hf
                                refine start_ (n := 14) (S := (fun w' => w'.cell? ⟨T, s * 4 + t, none⟩ = some (.int .i64 y) ∧ w'.cell? ⟨V, s * 8 + i * 4 + t, none⟩ = some (.int .i64 z))) (ds := []) #[false, false, false, false, false, false, false, false, false, false, false, false, false, false] (by kernel_rfl) rfl rfl HS.out (fun hHeld => ?_)
                                refine with_tabW least43.tab least43.bits (fun HT_ HW_ => ?_)
                                refine pure_ (i := 0) (N := some 122) (v := ?_) (a' := ?_) #[true, false, false, false, false, false, false, false, false, false, false, false, false, false] rfl rfl (any_of HT_.out (by kernel_rfl)) (fun _ _ _ h => h) (Or.inl ⟨by rfl, ?_⟩) ?_ ?_
                                rotate_left
                                · intro w'
                                  go_simp
                                  with_reducible rfl
                                rotate_left
                                · simp only [Act.put, List.setIfInBounds_toArray, List.set_cons_zero, List.set_cons_succ, i64_w, i32_w]
                                  rfl
                                refine pure_ (i := 1) (N := some 123) (v := ?_) (a' := ?_) #[true, true, false, false, false, false, false, false, false, false, false, false, false, false] rfl rfl (any_of HT_.out (by kernel_rfl)) (fun _ _ _ h => h) (Or.inl ⟨by rfl, ?_⟩) ?_ ?_
                                rotate_left
                                · intro w'
                                  go_simp
                                  with_reducible rfl
                                rotate_left
                                · simp only [Act.put, List.setIfInBounds_toArray, List.set_cons_zero, List.set_cons_succ, i64_w, i32_w]
                                  rfl
                                refine pure_ (i := 2) (N := some 124) (v := ?_) (a' := ?_) #[true, true, true, false, false, false, false, false, false, false, false, false, false, false] rfl rfl (any_of HT_.out (by kernel_rfl)) (fun _ _ _ h => h) (Or.inl ⟨by rfl, ?_⟩) ?_ ?_
                                rotate_left
                                · intro w'
                                  go_simp
                                  with_reducible rfl
                                rotate_left
                                · simp only [Act.put, List.setIfInBounds_toArray, List.set_cons_zero, List.set_cons_succ, i64_w, i32_w]
                                  rfl
                                refine pure_ (i := 3) (N := some 125) (v := ?_) (a' := ?_) #[true, true, true, true, false, false, false, false, false, false, false, false, false, false] rfl rfl (any_of HT_.out (by kernel_rfl)) (fun _ _ _ h => h) (Or.inl ⟨by rfl, ?_⟩) ?_ ?_
                                rotate_left
                                · intro w'
                                  go_simp
                                  with_reducible rfl
                                rotate_left
                                · simp only [Act.put, List.setIfInBounds_toArray, List.set_cons_zero, List.set_cons_succ, i64_w, i32_w]
                                  rfl
                                refine take_ (i := 4) (N := some 126) (v := ?_) (a' := ?_) #[true, true, true, true, true, false, false, false, false, false, false, false, false, false] rfl rfl (take_ofW HT_.out HW_.out (by kernel_rfl)) (fun _ _ _ h => h) (Or.inl ⟨by rfl, ?_⟩) hHeld ?_ ?_
                                rotate_left
                                · rintro w' ⟨s0, s1⟩
                                  go_simp
                                  with_reducible rfl
                                rotate_left
                                · simp only [Act.put, List.setIfInBounds_toArray, List.set_cons_zero, List.set_cons_succ, i64_w, i32_w]
                                  rfl
                                refine pure_ (i := 5) (N := some 127) (v := ?_) (a' := ?_) #[true, true, true, true, true, true, false, false, false, false, false, false, false, false] rfl rfl (any_of HT_.out (by kernel_rfl)) (fun _ _ _ h => h) (Or.inl ⟨by rfl, ?_⟩) ?_ ?_
                                rotate_left
                                · intro w'
                                  go_simp
                                  with_reducible rfl
                                rotate_left
                                · simp only [Act.put, List.setIfInBounds_toArray, List.set_cons_zero, List.set_cons_succ, i64_w, i32_w]
                                  rfl
                                refine pure_ (i := 6) (N := some 128) (v := ?_) (a' := ?_) #[true, true, true, true, true, true, true, false, false, false, false, false, false, false] rfl rfl (any_of HT_.out (by kernel_rfl)) (fun _ _ _ h => h) (Or.inl ⟨by rfl, ?_⟩) ?_ ?_
                                rotate_left
                                · intro w'
                                  go_simp
                                  with_reducible rfl
                                rotate_left
                                · simp only [Act.put, List.setIfInBounds_toArray, List.set_cons_zero, List.set_cons_succ, i64_w, i32_w]
                                  rfl
                                refine pure_ (i := 7) (N := some 129) (v := ?_) (a' := ?_) #[true, true, true, true, true, true, true, true, false, false, false, false, false, false] rfl rfl (any_of HT_.out (by kernel_rfl)) (fun _ _ _ h => h) (Or.inl ⟨by rfl, ?_⟩) ?_ ?_
                                rotate_left
                                · intro w'
                                  go_simp
                                  with_reducible rfl
                                rotate_left
                                · simp only [Act.put, List.setIfInBounds_toArray, List.set_cons_zero, List.set_cons_succ, i64_w, i32_w]
                                  rfl
                                refine pure_ (i := 8) (N := some 130) (v := ?_) (a' := ?_) #[true, true, true, true, true, true, true, true, true, false, false, false, false, false] rfl rfl (any_of HT_.out (by kernel_rfl)) (fun _ _ _ h => h) (Or.inl ⟨by rfl, ?_⟩) ?_ ?_
                                rotate_left
                                · intro w'
                                  go_simp
                                  with_reducible rfl
                                rotate_left
                                · simp only [Act.put, List.setIfInBounds_toArray, List.set_cons_zero, List.set_cons_succ, i64_w, i32_w]
                                  rfl
                                refine pure_ (i := 9) (N := some 131) (v := ?_) (a' := ?_) #[true, true, true, true, true, true, true, true, true, true, false, false, false, false] rfl rfl (any_of HT_.out (by kernel_rfl)) (fun _ _ _ h => h) (Or.inl ⟨by rfl, ?_⟩) ?_ ?_
                                rotate_left
                                · intro w'
                                  go_simp
                                  with_reducible rfl
                                rotate_left
                                · simp only [Act.put, List.setIfInBounds_toArray, List.set_cons_zero, List.set_cons_succ, i64_w, i32_w]
                                  rfl
                                refine pure_ (i := 10) (N := some 132) (v := ?_) (a' := ?_) #[true, true, true, true, true, true, true, true, true, true, true, false, false, false] rfl rfl (any_of HT_.out (by kernel_rfl)) (fun _ _ _ h => h) (Or.inl ⟨by rfl, ?_⟩) ?_ ?_
                                rotate_left
                                · intro w'
                                  go_simp
                                  with_reducible rfl
                                rotate_left
                                · simp only [Act.put, List.setIfInBounds_toArray, List.set_cons_zero, List.set_cons_succ, i64_w, i32_w]
                                  rfl
                                refine take_ (i := 11) (N := some 133) (v := ?_) (a' := ?_) #[true, true, true, true, true, true, true, true, true, true, true, true, false, false] rfl rfl (take_ofW HT_.out HW_.out (by kernel_rfl)) (fun _ _ _ h => h) (Or.inl ⟨by rfl, ?_⟩) hHeld ?_ ?_
                                rotate_left
                                · rintro w' ⟨s0, s1⟩
                                  go_simp
                                  with_reducible rfl
                                rotate_left
                                · simp only [Act.put, List.setIfInBounds_toArray, List.set_cons_zero, List.set_cons_succ, i64_w, i32_w]
                                  rfl
                                refine pure_ (i := 12) (N := some 134) (v := ?_) (a' := ?_) #[true, true, true, true, true, true, true, true, true, true, true, true, true, false] rfl rfl (any_of HT_.out (by kernel_rfl)) (fun _ _ _ h => h) (Or.inl ⟨by rfl, ?_⟩) ?_ ?_
                                rotate_left
                                · intro w'
                                  go_simp
                                  with_reducible rfl
                                rotate_left
                                · simp only [Act.put, List.setIfInBounds_toArray, List.set_cons_zero, List.set_cons_succ, i64_w, i32_w]
                                  rfl
                                refine pure_ (i := 13) (N := some 20) (v := ?_) (a' := ?_) #[true, true, true, true, true, true, true, true, true, true, true, true, true, true] rfl rfl (any_of HT_.out (by kernel_rfl)) (fun _ _ _ h => h) (Or.inl ⟨by rfl, ?_⟩) ?_ ?_
                                rotate_left
                                · intro w'
                                  go_simp
                                  with_reducible rfl
                                rotate_left
                                · simp only [Act.put, List.setIfInBounds_toArray, List.set_cons_zero, List.set_cons_succ, i64_w, i32_w]
                                  rfl
                                refine done_ (done_of HT_.out (by kernel_rfl)) ?_
                                clear HS
                                rw [hwz]
                                clear hyl hzl hwz
                                have HQ6 := Aside0.mk (HQ5.out.below (below_drew1 (Below.refl _ _)))
                                have hc3 : w5.drew.cell? ⟨B, 1, none⟩ = some (.int .i64 (D : Int)) := hc2
                                obtain ⟨w6, hw6⟩ : ∃ w6, w6 = w5.drew := ⟨_, rfl⟩
                                rw [← hw6] at HQ6 hc3 ⊢
                                clear hw6 hc2 HQ5
                                by_cases hD0 : D = 0
                                · subst hD0
                                  have hb2 := sw_best HW.out hs1 hlt hlt2 hlt3 HM.out HSW.out HK.out HYZ.out.2.2.symm (if y + z < best then y + z else best) (by rw [HYZ.out.1, HYZ.out.2.1])
                                  have HB2 := Aside0.mk hb2
                                  clear hb2 HYZ
                                  go_wp2_with fail
                                  go_roundw
                                  case rel => exact ⟨ch, L, _, i + 1, rfl, rfl, by simp, by omega, HQ6, ⟨HB2.out.1⟩, ⟨HB2.out.2⟩, HK⟩
                                  case measure => simp [intOf]; omega
                                · have hDb : ((D : Int) == 0) = false := beq_eq_false_iff_ne.mpr (by omega)
                                  have hu1 := nx_e t
                                  have hu2 := nx_t t
                                  have hu4 := nx_w t hlt2
                                  have hu3 : (nx t : Int) < 4 := by have := nx_lt t; omega
                                  have hDl : (D : Int) < 64 := by omega
                                  obtain ⟨u, hu⟩ : ∃ u, u = nx t := ⟨_, rfl⟩
                                  rw [← hu] at hu1 hu2 hu3 hu4
                                  obtain ⟨p, hp⟩ : ∃ p, p = L.getD (4 * D + u) 0 := ⟨_, rfl⟩
                                  have hLl : L.length = 256 := HM.out.li.len
                                  have hq6 : D * 4 + u = 4 * D + u := by omega
                                  have hcp : w6.cell? ⟨T, D * 4 + u, none⟩ = some (.int .i64 p) := by rw [hp, hq6]; exact ints_cell' HQ6.out.at_ (4 * D + u) (by omega)
                                  have hfz := blk_frozen HQ6.out.at_ (D * 4 + u)
                                  have HP := Aside0.mk (And.intro hp (And.intro hu hq6))
                                  clear hp hu hq6 hLl
                                  by_cases hlt4 : y + z < p
                                  · have hlb4 : decide (y + z < p) = true := decide_eq_true hlt4
                                    have hpt := sw_put HW.out hs1 hlt hlt2 hlt3 HM.out HSW.out HK.out (by rw [← HYZ.out.2.2]; exact hD0) (by rw [← HYZ.out.1, ← HYZ.out.2.1, ← HYZ.out.2.2, ← HP.out.2.1, ← HP.out.1]; exact hlt4) (8 * s + 2 * t + (i + 1))
                                    rw [← HYZ.out.1, ← HYZ.out.2.1, ← HYZ.out.2.2, ← HP.out.2.1] at hpt
                                    have hQ7 := HQ6.out.put (D * 4 + u) (y + z) (by have := HAP.out; have := HVT.out; omega) (by have := HAP.out; have := HVT.out; omega) (by have := HVT.out; omega)
                                    rw [HP.out.2.2] at hQ7
                                    have hk7 := Int.lt_of_le_of_lt (hpt.2.2 (4 * s + t)) HK.out
                                    have H7 := Aside0.mk (And.intro hQ7 (And.intro hpt hk7))
                                    have HE7 := Aside0.mk HP.out.2.2
                                    clear hpt hQ7 hk7 HYZ HP
                                    go_wp2_with fail
                                    go_roundw
                                    case rel => exact ⟨true, _, best, i + 1, rfl, rfl, by simp, by omega, ⟨by rw [HE7.out]; exact H7.out.1⟩, ⟨H7.out.2.1.1⟩, ⟨H7.out.2.1.2.1⟩, ⟨H7.out.2.2⟩⟩
                                    case measure => simp [intOf]; omega
                                  · have hlb4 : decide (y + z < p) = false := decide_eq_false hlt4
                                    have HSW2 := Aside0.mk (sw_keep HW.out hlt2 hlt3 HSW.out (by rw [← HYZ.out.2.2]; exact hD0) (by rw [← HYZ.out.1, ← HYZ.out.2.1, ← HYZ.out.2.2, ← HP.out.2.1, ← HP.out.1]; exact hlt4))
                                    clear HYZ HP
                                    go_wp2_with fail
                                    go_roundw
                                    case rel => exact ⟨ch, L, best, i + 1, rfl, rfl, by simp, by omega, HQ6, HM, HSW2, HK⟩
                                    case measure => simp [intOf]; omega
                              · obtain rfl : i = 2 := by omega
                                have hlb : decide (((2 : Nat) : Int) < 2) = false := by decide
                                go_wp2_with fail
                                go_roundw
                                case rel => exact ⟨ch, L, best, t + 1, rfl, rfl, by simp, by omega, HQ, HM, ⟨HSW.out⟩⟩
                                case measure => simp [intOf]; omega
                        · obtain rfl : t = 4 := by omega
                          have hlb : decide (((4 : Nat) : Int) < 4) = false := by decide
                          go_wp2_with fail
                          go_roundw
                          case rel => exact ⟨ch, L, best, s + 1, rfl, rfl, by simp, by omega, by omega, HQ, HM, ⟨HSW.out⟩⟩
                          case measure => simp [intOf]; omega
                    · obtain rfl : s = 64 := by omega
                      have hlb : decide (((64 : Nat) : Int) < 64) = false := by decide
                      go_wp2_with fail
                      go_roundw
                      case rel => exact ⟨ch, L, best, rfl, rfl, HQ, HM, ⟨fun h => by
                        rcases HSW.out with ⟨k, _⟩ | ⟨_, _, k⟩
                        · rw [h] at k; cases k
                        · exact k⟩⟩
                      case measure =>
                        rw [HML.out, msr_ints HQ.out.at_]
                        rcases HSW.out with ⟨k, k2⟩ | ⟨k, k2, _⟩
                        · subst k; simp [chN]; omega
                        · subst k; subst k2; simp [chN]
end Go.Proofs.YtijpnlmejphfhaaDoor.P
