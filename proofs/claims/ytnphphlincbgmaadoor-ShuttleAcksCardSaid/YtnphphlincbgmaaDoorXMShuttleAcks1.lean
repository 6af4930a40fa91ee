/- Texts of this seat, one behind the other (merge.py): the walks of the functions that the law ShuttleAcks uses, and plain words on what they come to. No condition. -/
import Derived.Test.YtnphphlincbgmaaDoorWTab
import Derived.WideKeyArr
import Derived.WideKeyElems2
import Derived.ChangeSame
import Derived.Test.YtnphphlincbgmaaDoorXMShuttleAcks0
-- YtnphphlincbgmaaDoorP4
namespace Go.Proofs.YtnphphlincbgmaaDoor.P
open Go.RowKit Go.Proofs.YtnphphlincbgmaaDoorW.PrintWords Go.Proofs.YtnphphlincbgmaaDoorW.PrintLast Go.Proofs.YtnphphlincbgmaaDoorW.PrintMore
attribute [local go_sem] max2_int min2_int max_two min_two max_three min_three max_four min_four   -- for this text's walks alone
set_option linter.unusedVariables false
set_option linter.unusedSimpArgs false

/-! ### ackmap_Of: function 5 -/
def ackmap_Of.l0 : Nat → Int → List Int → Int → Int → Int → Int → Option (Int × Int × Int)
  | 0, _, _, _, _, _, _ => none
  | k + 1, x0, x12, x13, x14, x104000, x104001 => if x14 < x13 then (if 0 ≤ x14 then (if x14 < (x12.length : Int) then ((seq_Ahead.f x0 (rd x12 x14)).bind fun t105 => ((seq_Before.f (rd x12 x14) x0).bind fun t106 => (if t106 = true then (ackmap_Of.l0 k x0 x12 x13 (wrap64 (x14 + 1)) x104000 x104001) else (if t105 = 0 then (some (0, 0, 13)) else (if t105 > 32 then (some (0, 0, 11)) else (if 0 ≤ (wrap64 (t105 - 1)) then (ackmap_Of.l0 k x0 x12 x13 (wrap64 (x14 + 1)) x104000 (Go.bits .or .u32 x104001 (shl .u32 1 (wrap64 (t105 - 1))))) else (none))))))) else (none)) else (none)) else (some (x104000, x104001, 0))
def ackmap_Of.f (k : Nat) (a0 : Int) (l1 : List Int) : Option (Int × Int × Int) := ackmap_Of.l0 k a0 l1 (l1.length : Int) 0 a0 0
theorem ackmap_Of.mono_l : ∀ k, (∀ y0 y1 y2 y3 y4 y5, LeO (ackmap_Of.l0 k y0 y1 y2 y3 y4 y5) (ackmap_Of.l0 (k + 1) y0 y1 y2 y3 y4 y5))
  | 0 => fun _ _ _ _ _ _ r h => by simp [ackmap_Of.l0] at h
  | k + 1 => by
    have ih0 := ackmap_Of.mono_l k
    · intro y0 y1 y2 y3 y4 y5
      unfold ackmap_Of.l0
      repeat' first
      | (with_reducible exact ih0 _ _ _ _ _ _)
      | (with_reducible exact LeO.refl _)
      | (with_reducible exact LeO.none _)
      | (with_reducible refine LeO.ite ?_ ?_)
      | (with_reducible refine LeO.bind ?_ (fun _ => ?_))
      | exact ih0 _ _ _ _ _ _
      | exact LeO.none _
      | refine LeO.ite ?_ ?_
      | refine LeO.bind ?_ (fun _ => ?_)
theorem ackmap_Of.mono : ∀ a0 a1 k, LeO (ackmap_Of.f k a0 a1) (ackmap_Of.f (k + 1) a0 a1) := by
  intro a0 a1 k
  have ih0 := ackmap_Of.mono_l k
  unfold ackmap_Of.f
  repeat' first
      | (with_reducible exact ih0 _ _ _ _ _ _)
      | (with_reducible exact LeO.refl _)
      | (with_reducible exact LeO.none _)
      | (with_reducible refine LeO.ite ?_ ?_)
      | (with_reducible refine LeO.bind ?_ (fun _ => ?_))
      | exact ih0 _ _ _ _ _ _
      | exact LeO.none _
      | refine LeO.ite ?_ ?_
      | refine LeO.bind ?_ (fun _ => ?_)
def ackmap_Of.T6 : Bool × List (List Nat × List Nat) := (true, [([], []), ([0], [0]), ([], []), ([2], [2]), ([3], [3]), ([1, 4], [1, 4]), ([0, 1, 2, 3, 4, 5], []), ([6, 5, 0, 1, 2, 3, 4, 5], [5, 6])])
def ackmap_Of.B6 : List Nat := [0, 1, 0, 4, 12, 31, 63, 127]
theorem ackmap_Of.tab6 : rtab .any (opsOf Tryd.f5 6) = ackmap_Of.T6 := by kernel_rfl
theorem ackmap_Of.bits6 : waitsOk ackmap_Of.T6.2 ackmap_Of.B6 = true := by kernel_rfl
set_option maxHeartbeats 8000000 in
set_option maxRecDepth 100000 in
theorem ackmap_Of.calls (k : Nat) (a0 : Int) (A1 : Option Addr) (c1 : Nat) (l1 : List Int) (r1 : Int) (r2 : Int) (r3 : Int) (w : World) (hr1 : Kd.C (Kd.int .u16) w A1 l1.length l1) (hc1 : l1.length ≤ c1) (h : ackmap_Of.f k a0 l1 = some (r1, r2, r3)) :
    Calls Tryd.prog 5 #[.int .u16 a0, .slice A1 l1.length c1] w fun e w' => e = .returned (.tuple #[.agg #[.int .u16 r1, .int .u32 r2], .int .i64 r3]) ∧ Below w.heap.size w w' := by
  have hu31 := Tryd.underlying31
  have HR1 := Aside0.mk hr1
  have HC1 := Aside0.mk hc1
  clear hr1 hc1
  have HB := Aside0.mk (Below.refl w.heap.size w)
  have H : (ackmap_Of.l0 k a0 l1 (l1.length : Int) 0 a0 0) = some (r1, r2, r3) := h
  clear h
  have H' := Aside0.mk H
  clear H
  go_enter Tryd.func5, Tryd.ntmps5
  go_wp2_with (first | ((with_reducible refine gate_dst (N := 4) rfl ?_); refine box_event ?hg (N := 4) ?hd (cs := #[.int .u16 0, .int .u32 0]) (t := 31) ?hr ?_; (case hd => rfl); (case hg => rfl); (case hr => first | (go_simp; done) | (go_simp; rfl)); intro gb102 hg w3 hbox hb; have n0_ := Aside0.mk (below_step (by repeat (first | (with_reducible first | exact HB.out | apply below_alloc | apply pw_below_drewN | apply below_drew1) | exact HB.out)) hb); have n1_ := Aside0.mk (hbox); have n2_ := Aside0.mk ((by rw [hg]; exact (below_size (by repeat (first | (with_reducible first | exact HB.out | apply below_alloc | apply pw_below_drewN | apply below_drew1) | exact HB.out))) : w.heap.size ≤ gb102)); have n3_ := Aside0.mk ((by rw [hg]; exact (below_size (by repeat (first | (with_reducible first | exact HB.out | apply below_alloc | apply pw_below_drewN | apply below_drew1) | exact HB.out))) : w.heap.size ≤ gb102)); clear HB; have HB := n0_; have BK102 := n1_; have GW102 := n2_; have GE102 := n3_; clear n0_ n1_ n2_ n3_; clear hb hbox hg) | ((with_reducible refine gate_dst (N := 6) rfl ?_); refine box_event ?hg (N := 6) ?hd (cs := #[.int .u16 0, .int .u32 0]) (t := 31) ?hr ?_; (case hd => rfl); (case hg => rfl); (case hr => first | (go_simp; done) | (go_simp; rfl)); intro gb103 hg w4 hbox hb; have n0_ := Aside0.mk (blk_below (g := gb102) (o := .cells #[.int .u16 0, .int .u32 0] 31 (0, 0)) (by (with_reducible repeat (first | refine blk_drewN ?_ _ | refine blk_drew ?_ | refine blk_alloc ?_ _)); exact BK102.out) hb); have n1_ := Aside0.mk (below_step (by repeat (first | (with_reducible first | exact HB.out | apply below_alloc | apply pw_below_drewN | apply below_drew1 | refine below_set ?_ GE102.out) | exact HB.out)) hb); have n2_ := Aside0.mk (hbox); have n3_ := Aside0.mk ((by rw [hg]; exact (below_size (by repeat (first | (with_reducible first | exact HB.out | apply below_alloc | apply pw_below_drewN | apply below_drew1 | refine below_set ?_ GE102.out) | exact HB.out))) : w.heap.size ≤ gb103)); have n4_ := Aside0.mk ((by rw [hg]; exact (below_size (by repeat (first | (with_reducible first | exact HB.out | apply below_alloc | apply pw_below_drewN | apply below_drew1 | refine below_set ?_ GE102.out) | exact HB.out))) : w.heap.size ≤ gb103)); have n5_ := Aside0.mk ((by rw [hg]; exact Nat.ne_of_lt (blk_lt (g := gb102) (o := .cells #[.int .u16 0, .int .u32 0] 31 (0, 0)) (by (with_reducible repeat (first | refine blk_drewN ?_ _ | refine blk_drew ?_ | refine blk_alloc ?_ _)); exact BK102.out)) : gb102 ≠ gb103)); have n6_ := Aside0.mk ((by rw [hg]; exact Nat.ne_of_gt (blk_lt (g := gb102) (o := .cells #[.int .u16 0, .int .u32 0] 31 (0, 0)) (by (with_reducible repeat (first | refine blk_drewN ?_ _ | refine blk_drew ?_ | refine blk_alloc ?_ _)); exact BK102.out)) : gb103 ≠ gb102)); clear BK102; clear HB; have BK102 := n0_; have HB := n1_; have BK103 := n2_; have GW103 := n3_; have GE103 := n4_; have NB102_103 := n5_; have NB103_102 := n6_; clear n0_ n1_ n2_ n3_ n4_ n5_ n6_; clear hb hbox hg; have hnb5 := NB103_102.out; have hnc5 := NB102_103.out; have hcz6_0 : w4.cell? ⟨gb103, 0, none⟩ = some (.int .u16 0) := (blk_cell BK103.out 0).trans rfl; have hcz6_1 : w4.cell? ⟨gb103, 1, none⟩ = some (.int .u32 0) := (blk_cell BK103.out 1).trans rfl; have hfz6_0 := blk_frozen BK103.out 0; have hfz6_1 := blk_frozen BK103.out 1))
  go_loopg [14] k (fun kq v14 w' => ∃ (x14_1 : Int) (x103000_1 : Int) (x103001_1 : Int) (x104001_1 : Int), v14 = .int .i64 x14_1 ∧ Aside0 (ackmap_Of.l0 kq a0 l1 (l1.length : Int) x14_1 a0 x104001_1 = some (r1, r2, r3)) ∧ Aside0 (kq ≤ k) ∧ Aside0 (w'.heap[gb102]? = some (.cells #[.int .u16 x103000_1, .int .u32 x103001_1] 31 (0, 0))) ∧ Aside0 (w'.heap[gb103]? = some (.cells #[.int .u16 a0, .int .u32 x104001_1] 31 (0, 0))) ∧ Aside0 (Below w.heap.size w w'))
  case atStart => exact ⟨(0), (0), (0), (0), (by first | rfl | (simp; done) | (simp [*]; done)), H', ⟨Nat.le_refl _⟩, ⟨by (with_reducible repeat (first | refine blk_drewN ?_ _ | refine blk_drew ?_ | refine blk_alloc ?_ _)); refine blk_far ?_ NB102_103.out _; (with_reducible repeat (first | refine blk_drewN ?_ _ | refine blk_drew ?_ | refine blk_alloc ?_ _)); refine blk_far ?_ NB102_103.out _; (with_reducible repeat (first | refine blk_drewN ?_ _ | refine blk_drew ?_ | refine blk_alloc ?_ _)); exact BK102.out⟩, ⟨by (with_reducible repeat (first | refine blk_drewN ?_ _ | refine blk_drew ?_ | refine blk_alloc ?_ _)); refine blk_put (cs := #[.int .u16 a0, .int .u32 0]) ?_ 1 _ rfl; (with_reducible repeat (first | refine blk_drewN ?_ _ | refine blk_drew ?_ | refine blk_alloc ?_ _)); refine blk_put (cs := #[.int .u16 0, .int .u32 0]) ?_ 0 _ rfl; (with_reducible repeat (first | refine blk_drewN ?_ _ | refine blk_drew ?_ | refine blk_alloc ?_ _)); exact BK103.out⟩, ⟨by repeat (first | (with_reducible first | exact HB.out | apply below_alloc | apply pw_below_drewN | apply below_drew1 | refine below_set ?_ GE102.out | refine below_set ?_ GE103.out) | exact HB.out)⟩⟩
  case round =>
    clear H'
    try clear c1
    try clear p2
    try clear c5
    try clear hcz6_0
    try clear hcz6_1
    try clear hfz6_0
    try clear hfz6_1
    obtain ⟨x14_1, x103000_1, x103001_1, x104001_1, rfl, HA, HK1, BK102, BK103, HB⟩ := hrel
    cases gk with
    | zero => exact absurd HA.out (by simp [ackmap_Of.l0])
    | succ k1 =>
      have H := HA.out
      clear HA
      simp only [ackmap_Of.l0] at H
      by_cases c7 : x14_1 < (l1.length : Int)
      · rw [if_pos c7] at H
        have c7b0 : decide (x14_1 < (l1.length : Int)) = true := decide_eq_true c7
        clear c7
        by_cases c8 : 0 ≤ x14_1
        · rw [if_pos c8] at H
          have c8b0 : decide (0 ≤ x14_1) = true := decide_eq_true c8
          clear c8
          by_cases c9 : x14_1 < (l1.length : Int)
          · rw [if_pos c9] at H
            have c9b0 : decide (x14_1 < (l1.length : Int)) = true := decide_eq_true c9
            clear c9
            replace H := Option.bind_eq_some_iff.mp H
            obtain ⟨t105, A100, H⟩ := H
            replace H : ((seq_Before.f (rd l1 x14_1) a0).bind fun t106 => (if t106 = true then (ackmap_Of.l0 k1 a0 l1 (l1.length : Int) (wrap64 (x14_1 + 1)) a0 x104001_1) else (if t105 = 0 then (some (0, 0, 13)) else (if t105 > 32 then (some (0, 0, 11)) else (if 0 ≤ (wrap64 (t105 - 1)) then (ackmap_Of.l0 k1 a0 l1 (l1.length : Int) (wrap64 (x14_1 + 1)) a0 (Go.bits .or .u32 x104001_1 (shl .u32 1 (wrap64 (t105 - 1))))) else (none)))))) = some (r1, r2, r3) := H
            have A10 := Aside0.mk A100
            clear A100
            replace H := Option.bind_eq_some_iff.mp H
            obtain ⟨t106, A110, H⟩ := H
            replace H : (if t106 = true then (ackmap_Of.l0 k1 a0 l1 (l1.length : Int) (wrap64 (x14_1 + 1)) a0 x104001_1) else (if t105 = 0 then (some (0, 0, 13)) else (if t105 > 32 then (some (0, 0, 11)) else (if 0 ≤ (wrap64 (t105 - 1)) then (ackmap_Of.l0 k1 a0 l1 (l1.length : Int) (wrap64 (x14_1 + 1)) a0 (Go.bits .or .u32 x104001_1 (shl .u32 1 (wrap64 (t105 - 1))))) else (none))))) = some (r1, r2, r3) := H
            have A11 := Aside0.mk A110
            clear A110
            by_cases c12 : t106 = true
            · subst c12
              have H1 : (ackmap_Of.l0 k1 a0 l1 (l1.length : Int) (wrap64 (x14_1 + 1)) a0 x104001_1) = some (r1, r2, r3) := by rw [if_pos rfl] at H; exact H
              clear H
              have H := H1
              clear H1
              have H' := Aside0.mk H
              clear H
              have p104 : 0 ≤ (x14_1 : Int) := of_decide_eq_true (by first | (with_reducible assumption) | assumption)
              have q104 : x14_1 < (l1.length : Int) := of_decide_eq_true (by first | (with_reducible assumption) | assumption)
              obtain ⟨ad104, e104, hx104_0⟩ := Kd.at_int HR1.out x14_1 p104 q104
              cases e104
              replace hx104_0 := (HB.out.cell (World.block_lt_of_cell? w _ hx104_0)).trans hx104_0
              replace p104 := eq_true p104
              replace q104 := eq_true q104
              go_wp2_with (first | ((with_reducible refine gate_callee (f := 10) rfl ?_); refine goesL_ (some 20) rfl rfl Tryd.func10 (by kernel_rfl) rfl #[.int .u16 a0, .int .u16 (rd l1 x14_1)] rfl (by (try simp only [List.map_toArray, List.map_cons, List.map_nil]); first | done | rfl | (simp only [List.length_drop, List.length_take]; rfl)) ?_; (with_reducible refine (seq_Ahead.calls a0 (rd l1 x14_1) t105 _ A10.out).mono ?_); rintro e w' ⟨rfl, ⟨nd, rfl⟩⟩; refine ⟨_, rfl, ?_⟩) | ((with_reducible refine gate_callee (f := 11) rfl ?_); refine goesL_ (some 31) rfl rfl Tryd.func11 (by kernel_rfl) rfl #[.int .u16 (rd l1 x14_1), .int .u16 a0] rfl (by (try simp only [List.map_toArray, List.map_cons, List.map_nil]); first | done | rfl | (simp only [List.length_drop, List.length_take]; rfl)) ?_; (with_reducible refine (seq_Before.calls (rd l1 x14_1) a0 true _ A11.out).mono ?_); rintro e w' ⟨rfl, ⟨nd, rfl⟩⟩; refine ⟨_, rfl, ?_⟩))
              go_roundg k1
              case measure => have := HK1.out; omega
              case rel => exact ⟨(wrap64 (x14_1 + 1)), (x103000_1), (x103001_1), (x104001_1), (by first | rfl | (simp; done) | (simp [*]; done)), H', ⟨by have := HK1.out; omega⟩, ⟨by (with_reducible repeat (first | refine blk_drewN ?_ _ | refine blk_drew ?_ | refine blk_alloc ?_ _)); exact BK102.out⟩, ⟨by (with_reducible repeat (first | refine blk_drewN ?_ _ | refine blk_drew ?_ | refine blk_alloc ?_ _)); exact BK103.out⟩, ⟨by repeat (first | (with_reducible first | exact HB.out | apply below_alloc | apply pw_below_drewN | apply below_drew1 | refine below_set ?_ GE102.out | refine below_set ?_ GE103.out) | exact HB.out)⟩⟩
            · replace c12 := Bool.eq_false_iff.mpr c12
              subst c12
              have H1 : (if t105 = 0 then (some (0, 0, 13)) else (if t105 > 32 then (some (0, 0, 11)) else (if 0 ≤ (wrap64 (t105 - 1)) then (ackmap_Of.l0 k1 a0 l1 (l1.length : Int) (wrap64 (x14_1 + 1)) a0 (Go.bits .or .u32 x104001_1 (shl .u32 1 (wrap64 (t105 - 1))))) else (none)))) = some (r1, r2, r3) := by rw [if_neg (show ¬ (false = true) by decide)] at H; exact H
              clear H
              have H := H1
              clear H1
              by_cases c13 : t105 = 0
              · rw [if_pos c13] at H
                have c13b0 : (t105 == 0) = true := beq_iff_eq.mpr c13
                have c13b1 : (t105 != 0) = false := bne_eq_false_iff_eq.mpr c13
                clear c13
                simp only [Option.some.injEq, Prod.mk.injEq] at H
                obtain ⟨rfl, rfl, rfl⟩ := H
                have p104 : 0 ≤ (x14_1 : Int) := of_decide_eq_true (by first | (with_reducible assumption) | assumption)
                have q104 : x14_1 < (l1.length : Int) := of_decide_eq_true (by first | (with_reducible assumption) | assumption)
                obtain ⟨ad104, e104, hx104_0⟩ := Kd.at_int HR1.out x14_1 p104 q104
                cases e104
                replace hx104_0 := (HB.out.cell (World.block_lt_of_cell? w _ hx104_0)).trans hx104_0
                replace p104 := eq_true p104
                replace q104 := eq_true q104
                go_wp2_with (first | ((with_reducible refine gate_callee (f := 10) rfl ?_); refine goesL_ (some 20) rfl rfl Tryd.func10 (by kernel_rfl) rfl #[.int .u16 a0, .int .u16 (rd l1 x14_1)] rfl (by (try simp only [List.map_toArray, List.map_cons, List.map_nil]); first | done | rfl | (simp only [List.length_drop, List.length_take]; rfl)) ?_; (with_reducible refine (seq_Ahead.calls a0 (rd l1 x14_1) t105 _ A10.out).mono ?_); rintro e w' ⟨rfl, ⟨nd, rfl⟩⟩; refine ⟨_, rfl, ?_⟩; (try (rw [drewN_self wr]; generalize hq_ : World.drewN wr _ = wr; have n0_ : Aside0 (wr.heap[gb102]? = some (.cells #[.int .u16 x103000_1, .int .u32 x103001_1] 31 (0, 0))) := ⟨by rw [← hq_]; exact (by (with_reducible repeat (first | refine blk_drewN ?_ _ | refine blk_drew ?_ | refine blk_alloc ?_ _)); exact BK102.out)⟩; have n1_ : Aside0 (wr.heap[gb103]? = some (.cells #[.int .u16 a0, .int .u32 x104001_1] 31 (0, 0))) := ⟨by rw [← hq_]; exact (by (with_reducible repeat (first | refine blk_drewN ?_ _ | refine blk_drew ?_ | refine blk_alloc ?_ _)); exact BK103.out)⟩; have n2_ : Aside0 (Below w.heap.size w wr) := ⟨by rw [← hq_]; exact (by repeat (first | (with_reducible first | exact HB.out | apply below_alloc | apply pw_below_drewN | apply below_drew1 | refine below_set ?_ GE102.out | refine below_set ?_ GE103.out) | exact HB.out))⟩; clear BK102 BK103 HB hq_; have BK102 := n0_; have BK103 := n1_; have HB := n2_; clear n0_ n1_ n2_))) | ((with_reducible refine gate_callee (f := 11) rfl ?_); refine goesL_ (some 31) rfl rfl Tryd.func11 (by kernel_rfl) rfl #[.int .u16 (rd l1 x14_1), .int .u16 a0] rfl (by (try simp only [List.map_toArray, List.map_cons, List.map_nil]); first | done | rfl | (simp only [List.length_drop, List.length_take]; rfl)) ?_; (with_reducible refine (seq_Before.calls (rd l1 x14_1) a0 false _ A11.out).mono ?_); rintro e w' ⟨rfl, ⟨nd, rfl⟩⟩; refine ⟨_, rfl, ?_⟩; (try (rw [drewN_self wr]; generalize hq_ : World.drewN wr _ = wr; have n0_ : Aside0 (wr.heap[gb102]? = some (.cells #[.int .u16 x103000_1, .int .u32 x103001_1] 31 (0, 0))) := ⟨by rw [← hq_]; exact (by (with_reducible repeat (first | refine blk_drewN ?_ _ | refine blk_drew ?_ | refine blk_alloc ?_ _)); exact BK102.out)⟩; have n1_ : Aside0 (wr.heap[gb103]? = some (.cells #[.int .u16 a0, .int .u32 x104001_1] 31 (0, 0))) := ⟨by rw [← hq_]; exact (by (with_reducible repeat (first | refine blk_drewN ?_ _ | refine blk_drew ?_ | refine blk_alloc ?_ _)); exact BK103.out)⟩; have n2_ : Aside0 (Below w.heap.size w wr) := ⟨by rw [← hq_]; exact (by repeat (first | (with_reducible first | exact HB.out | apply below_alloc | apply pw_below_drewN | apply below_drew1 | refine below_set ?_ GE102.out | refine below_set ?_ GE103.out) | exact HB.out))⟩; clear BK102 BK103 HB hq_; have BK102 := n0_; have BK103 := n1_; have HB := n2_; clear n0_ n1_ n2_)); have hnb14 := NB102_103.out; have hnc14 := NB103_102.out; have hcz15_0 : wr.cell? ⟨gb102, 0, none⟩ = some (.int .u16 x103000_1) := (blk_cell BK102.out 0).trans rfl; have hcz15_1 : wr.cell? ⟨gb102, 1, none⟩ = some (.int .u32 x103001_1) := (blk_cell BK102.out 1).trans rfl; have hfz15_0 := blk_frozen BK102.out 0; have hfz15_1 := blk_frozen BK102.out 1))
                refine bodyPost_ret (results_ct rfl _ _ gb102 31 #[.int .u16 0, .int .u32 0] (0, 0) _ rfl (by (with_reducible repeat (first | refine blk_drewN ?_ _ | refine blk_drew ?_ | refine blk_alloc ?_ _)); refine blk_put (cs := #[.int .u16 0, .int .u32 x103001_1]) ?_ 1 _ rfl; (with_reducible repeat (first | refine blk_drewN ?_ _ | refine blk_drew ?_ | refine blk_alloc ?_ _)); refine blk_put (cs := #[.int .u16 x103000_1, .int .u32 x103001_1]) ?_ 0 _ rfl; (with_reducible repeat (first | refine blk_drewN ?_ _ | refine blk_drew ?_ | refine blk_alloc ?_ _)); exact BK102.out) Tryd.underlying31 rfl (by kernel_rfl)) rfl ?_
                exact ⟨by first | rfl | (simp [errW_none, errW_some] <;> rfl) | (simp [*, errW_none, errW_some] <;> rfl), by repeat (first | (with_reducible first | exact HB.out | apply below_alloc | apply pw_below_drewN | apply below_drew1 | refine below_set ?_ GE102.out | refine below_set ?_ GE103.out) | exact HB.out)⟩
              · rw [if_neg c13] at H
                have c13b0 : (t105 == 0) = false := beq_eq_false_iff_ne.mpr c13
                have c13b1 : (t105 != 0) = true := bne_iff_ne.mpr c13
                by_cases c16 : t105 > 32
                · rw [if_pos c16] at H
                  have c16b0 : decide (32 < t105) = true := decide_eq_true c16
                  clear c16
                  simp only [Option.some.injEq, Prod.mk.injEq] at H
                  obtain ⟨rfl, rfl, rfl⟩ := H
                  have p104 : 0 ≤ (x14_1 : Int) := of_decide_eq_true (by first | (with_reducible assumption) | assumption)
                  have q104 : x14_1 < (l1.length : Int) := of_decide_eq_true (by first | (with_reducible assumption) | assumption)
                  obtain ⟨ad104, e104, hx104_0⟩ := Kd.at_int HR1.out x14_1 p104 q104
                  cases e104
                  replace hx104_0 := (HB.out.cell (World.block_lt_of_cell? w _ hx104_0)).trans hx104_0
                  replace p104 := eq_true p104
                  replace q104 := eq_true q104
                  go_wp2_with (first | ((with_reducible refine gate_callee (f := 10) rfl ?_); refine goesL_ (some 20) rfl rfl Tryd.func10 (by kernel_rfl) rfl #[.int .u16 a0, .int .u16 (rd l1 x14_1)] rfl (by (try simp only [List.map_toArray, List.map_cons, List.map_nil]); first | done | rfl | (simp only [List.length_drop, List.length_take]; rfl)) ?_; (with_reducible refine (seq_Ahead.calls a0 (rd l1 x14_1) t105 _ A10.out).mono ?_); rintro e w' ⟨rfl, ⟨nd, rfl⟩⟩; refine ⟨_, rfl, ?_⟩; (try (rw [drewN_self wr]; generalize hq_ : World.drewN wr _ = wr; have n0_ : Aside0 (wr.heap[gb102]? = some (.cells #[.int .u16 x103000_1, .int .u32 x103001_1] 31 (0, 0))) := ⟨by rw [← hq_]; exact (by (with_reducible repeat (first | refine blk_drewN ?_ _ | refine blk_drew ?_ | refine blk_alloc ?_ _)); exact BK102.out)⟩; have n1_ : Aside0 (wr.heap[gb103]? = some (.cells #[.int .u16 a0, .int .u32 x104001_1] 31 (0, 0))) := ⟨by rw [← hq_]; exact (by (with_reducible repeat (first | refine blk_drewN ?_ _ | refine blk_drew ?_ | refine blk_alloc ?_ _)); exact BK103.out)⟩; have n2_ : Aside0 (Below w.heap.size w wr) := ⟨by rw [← hq_]; exact (by repeat (first | (with_reducible first | exact HB.out | apply below_alloc | apply pw_below_drewN | apply below_drew1 | refine below_set ?_ GE102.out | refine below_set ?_ GE103.out) | exact HB.out))⟩; clear BK102 BK103 HB hq_; have BK102 := n0_; have BK103 := n1_; have HB := n2_; clear n0_ n1_ n2_))) | ((with_reducible refine gate_callee (f := 11) rfl ?_); refine goesL_ (some 31) rfl rfl Tryd.func11 (by kernel_rfl) rfl #[.int .u16 (rd l1 x14_1), .int .u16 a0] rfl (by (try simp only [List.map_toArray, List.map_cons, List.map_nil]); first | done | rfl | (simp only [List.length_drop, List.length_take]; rfl)) ?_; (with_reducible refine (seq_Before.calls (rd l1 x14_1) a0 false _ A11.out).mono ?_); rintro e w' ⟨rfl, ⟨nd, rfl⟩⟩; refine ⟨_, rfl, ?_⟩; (try (rw [drewN_self wr]; generalize hq_ : World.drewN wr _ = wr; have n0_ : Aside0 (wr.heap[gb102]? = some (.cells #[.int .u16 x103000_1, .int .u32 x103001_1] 31 (0, 0))) := ⟨by rw [← hq_]; exact (by (with_reducible repeat (first | refine blk_drewN ?_ _ | refine blk_drew ?_ | refine blk_alloc ?_ _)); exact BK102.out)⟩; have n1_ : Aside0 (wr.heap[gb103]? = some (.cells #[.int .u16 a0, .int .u32 x104001_1] 31 (0, 0))) := ⟨by rw [← hq_]; exact (by (with_reducible repeat (first | refine blk_drewN ?_ _ | refine blk_drew ?_ | refine blk_alloc ?_ _)); exact BK103.out)⟩; have n2_ : Aside0 (Below w.heap.size w wr) := ⟨by rw [← hq_]; exact (by repeat (first | (with_reducible first | exact HB.out | apply below_alloc | apply pw_below_drewN | apply below_drew1 | refine below_set ?_ GE102.out | refine below_set ?_ GE103.out) | exact HB.out))⟩; clear BK102 BK103 HB hq_; have BK102 := n0_; have BK103 := n1_; have HB := n2_; clear n0_ n1_ n2_)); have hnb17 := NB102_103.out; have hnc17 := NB103_102.out; have hcz18_0 : wr.cell? ⟨gb102, 0, none⟩ = some (.int .u16 x103000_1) := (blk_cell BK102.out 0).trans rfl; have hcz18_1 : wr.cell? ⟨gb102, 1, none⟩ = some (.int .u32 x103001_1) := (blk_cell BK102.out 1).trans rfl; have hfz18_0 := blk_frozen BK102.out 0; have hfz18_1 := blk_frozen BK102.out 1))
                  refine bodyPost_ret (results_ct rfl _ _ gb102 31 #[.int .u16 0, .int .u32 0] (0, 0) _ rfl (by (with_reducible repeat (first | refine blk_drewN ?_ _ | refine blk_drew ?_ | refine blk_alloc ?_ _)); refine blk_put (cs := #[.int .u16 0, .int .u32 x103001_1]) ?_ 1 _ rfl; (with_reducible repeat (first | refine blk_drewN ?_ _ | refine blk_drew ?_ | refine blk_alloc ?_ _)); refine blk_put (cs := #[.int .u16 x103000_1, .int .u32 x103001_1]) ?_ 0 _ rfl; (with_reducible repeat (first | refine blk_drewN ?_ _ | refine blk_drew ?_ | refine blk_alloc ?_ _)); exact BK102.out) Tryd.underlying31 rfl (by kernel_rfl)) rfl ?_
                  exact ⟨by first | rfl | (simp [errW_none, errW_some] <;> rfl) | (simp [*, errW_none, errW_some] <;> rfl), by repeat (first | (with_reducible first | exact HB.out | apply below_alloc | apply pw_below_drewN | apply below_drew1 | refine below_set ?_ GE102.out | refine below_set ?_ GE103.out) | exact HB.out)⟩
                · rw [if_neg c16] at H
                  have c16b0 : decide (32 < t105) = false := decide_eq_false c16
                  clear c16
                  obtain ⟨ji19, hji19⟩ : ∃ j_ : Int, (wrap64 (t105 - 1)) = j_ := ⟨_, rfl⟩
                  replace H : (if 0 ≤ (ji19) then (ackmap_Of.l0 k1 a0 l1 (l1.length : Int) (wrap64 (x14_1 + 1)) a0 (Go.bits .or .u32 x104001_1 (shl .u32 1 (ji19)))) else (none)) = some (r1, r2, r3) := by first | (rw [hji19] at H; exact H) | (simp only [hji19] at H ⊢; exact H)
                  (try rw [hji19] at A10)
                  (try rw [hji19] at A11)
                  have hji19w : (IntKind.i64.wrap (t105 - 1)) = ji19 := (i64_w _).trans hji19
                  by_cases c20 : 0 ≤ (ji19)
                  · rw [if_pos c20] at H
                    have c20b0 := eq_true c20
                    have c20b1 : decide (0 ≤ (ji19)) = true := decide_eq_true c20
                    clear c20
                    obtain ⟨ji21, hji21⟩ : ∃ j_ : Int, (shl .u32 1 (ji19)) = j_ := ⟨_, rfl⟩
                    replace H : (ackmap_Of.l0 k1 a0 l1 (l1.length : Int) (wrap64 (x14_1 + 1)) a0 (Go.bits .or .u32 x104001_1 (ji21))) = some (r1, r2, r3) := by first | (rw [hji21] at H; exact H) | (simp only [hji21] at H ⊢; exact H)
                    (try rw [hji21] at A10)
                    (try rw [hji21] at A11)
                    have hji21_ : (IntKind.u32.wrap (1 * 2 ^ min (ji19).toNat 32)) = ji21 := hji21
                    have hji21z : (ji19) ≤ 32 → (IntKind.u32.wrap (1 * 2 ^ (ji19).toNat)) = ji21 := shl_small hji21
                    have hji21u : (IntKind.u32.wrap (2 ^ min (ji19).toNat 32)) = ji21 := by have h_ := hji21_; rw [Int.one_mul] at h_; exact h_
                    have hji21v : (ji19) ≤ 32 → (IntKind.u32.wrap (2 ^ (ji19).toNat)) = ji21 := fun hle_ => by have h_ := hji21z hle_; rw [Int.one_mul] at h_; exact h_
                    have H' := Aside0.mk H
                    clear H
                    have p104 : 0 ≤ (x14_1 : Int) := of_decide_eq_true (by first | (with_reducible assumption) | assumption)
                    have q104 : x14_1 < (l1.length : Int) := of_decide_eq_true (by first | (with_reducible assumption) | assumption)
                    obtain ⟨ad104, e104, hx104_0⟩ := Kd.at_int HR1.out x14_1 p104 q104
                    cases e104
                    replace hx104_0 := (HB.out.cell (World.block_lt_of_cell? w _ hx104_0)).trans hx104_0
                    replace p104 := eq_true p104
                    replace q104 := eq_true q104
                    try go_wp2_with (first | ((with_reducible refine gate_callee (f := 10) rfl ?_); refine goesL_ (some 20) rfl rfl Tryd.func10 (by kernel_rfl) rfl #[.int .u16 a0, .int .u16 (rd l1 x14_1)] rfl (by (try simp only [List.map_toArray, List.map_cons, List.map_nil]); first | done | rfl | (simp only [List.length_drop, List.length_take]; rfl)) ?_; (with_reducible refine (seq_Ahead.calls a0 (rd l1 x14_1) t105 _ A10.out).mono ?_); rintro e w' ⟨rfl, ⟨nd, rfl⟩⟩; refine ⟨_, rfl, ?_⟩; (try (rw [drewN_self wr]; generalize hq_ : World.drewN wr _ = wr; have n0_ : Aside0 (wr.heap[gb102]? = some (.cells #[.int .u16 x103000_1, .int .u32 x103001_1] 31 (0, 0))) := ⟨by rw [← hq_]; exact (by (with_reducible repeat (first | refine blk_drewN ?_ _ | refine blk_drew ?_ | refine blk_alloc ?_ _)); exact BK102.out)⟩; have n1_ : Aside0 (wr.heap[gb103]? = some (.cells #[.int .u16 a0, .int .u32 x104001_1] 31 (0, 0))) := ⟨by rw [← hq_]; exact (by (with_reducible repeat (first | refine blk_drewN ?_ _ | refine blk_drew ?_ | refine blk_alloc ?_ _)); exact BK103.out)⟩; have n2_ : Aside0 (Below w.heap.size w wr) := ⟨by rw [← hq_]; exact (by repeat (first | (with_reducible first | exact HB.out | apply below_alloc | apply pw_below_drewN | apply below_drew1 | refine below_set ?_ GE102.out | refine below_set ?_ GE103.out) | exact HB.out))⟩; clear BK102 BK103 HB hq_; have BK102 := n0_; have BK103 := n1_; have HB := n2_; clear n0_ n1_ n2_))) | ((with_reducible refine gate_callee (f := 11) rfl ?_); refine goesL_ (some 31) rfl rfl Tryd.func11 (by kernel_rfl) rfl #[.int .u16 (rd l1 x14_1), .int .u16 a0] rfl (by (try simp only [List.map_toArray, List.map_cons, List.map_nil]); first | done | rfl | (simp only [List.length_drop, List.length_take]; rfl)) ?_; (with_reducible refine (seq_Before.calls (rd l1 x14_1) a0 false _ A11.out).mono ?_); rintro e w' ⟨rfl, ⟨nd, rfl⟩⟩; refine ⟨_, rfl, ?_⟩; (try (rw [drewN_self wr]; generalize hq_ : World.drewN wr _ = wr; have n0_ : Aside0 (wr.heap[gb102]? = some (.cells #[.int .u16 x103000_1, .int .u32 x103001_1] 31 (0, 0))) := ⟨by rw [← hq_]; exact (by (with_reducible repeat (first | refine blk_drewN ?_ _ | refine blk_drew ?_ | refine blk_alloc ?_ _)); exact BK102.out)⟩; have n1_ : Aside0 (wr.heap[gb103]? = some (.cells #[.int .u16 a0, .int .u32 x104001_1] 31 (0, 0))) := ⟨by rw [← hq_]; exact (by (with_reducible repeat (first | refine blk_drewN ?_ _ | refine blk_drew ?_ | refine blk_alloc ?_ _)); exact BK103.out)⟩; have n2_ : Aside0 (Below w.heap.size w wr) := ⟨by rw [← hq_]; exact (by repeat (first | (with_reducible first | exact HB.out | apply below_alloc | apply pw_below_drewN | apply below_drew1 | refine below_set ?_ GE102.out | refine below_set ?_ GE103.out) | exact HB.out))⟩; clear BK102 BK103 HB hq_; have BK102 := n0_; have BK103 := n1_; have HB := n2_; clear n0_ n1_ n2_))))
                    have n0_ := Aside0.mk (blk_drew BK102.out)
                    have n1_ := Aside0.mk (blk_drew BK103.out)
                    have n2_ := Aside0.mk (below_drew1 HB.out)
                    clear BK102
                    clear BK103
                    clear HB
                    have BK102 := n0_
                    have BK103 := n1_
                    have HB := n2_
                    clear n0_ n1_ n2_
                    refine start_ (n := 8) (S := fun w' => w'.cell? ⟨gb103, 0, none⟩ = some (.int .u16 a0) ∧ w'.cell? ⟨gb103, 1, none⟩ = some (.int .u32 x104001_1)) (ds := [7]) #[false, false, false, false, false, false, false, false] (by kernel_rfl) rfl rfl ⟨(blk_cell BK103.out 0).trans rfl, (blk_cell BK103.out 1).trans rfl⟩ (fun hHeld => ?_); refine with_tabW ackmap_Of.tab6 ackmap_Of.bits6 (fun HT_ HW_ => ?_)
                    generalize wr.drew = w22 at BK102 BK103 HB hHeld ⊢
                    refine pure_ (i := 0) (N := some 21) (v := ?_) (a' := ?_) #[true, false, false, false, false, false, false, false] rfl rfl (any_of HT_.out (by kernel_rfl)) (fun _ _ _ h => h) (Or.inl ⟨by rfl, ?_⟩) ?_ ?_
                    rotate_left
                    · intro w'
                      go_simp
                      with_reducible rfl
                    rotate_left
                    · simp only [Act.put, List.setIfInBounds_toArray, List.set_cons_zero, List.set_cons_succ, i64_w, i32_w]
                      rfl
                    refine pure_ (i := 2) (N := some 23) (v := ?_) (a' := ?_) #[true, false, true, false, false, false, false, false] rfl rfl (any_of HT_.out (by kernel_rfl)) (fun _ _ _ h => h) (Or.inl ⟨by rfl, ?_⟩) ?_ ?_
                    rotate_left
                    · intro w'
                      go_simp
                      with_reducible rfl
                    rotate_left
                    · simp only [Act.put, List.setIfInBounds_toArray, List.set_cons_zero, List.set_cons_succ, i64_w, i32_w]
                      rfl
                    refine pure_ (i := 3) (N := some 24) (v := ?_) (a' := ?_) #[true, false, true, true, false, false, false, false] rfl rfl (any_of HT_.out (by kernel_rfl)) (fun _ _ _ h => h) (Or.inl ⟨by rfl, ?_⟩) ?_ ?_
                    rotate_left
                    · intro w'
                      go_simp
                      with_reducible rfl
                    rotate_left
                    · simp only [Act.put, List.setIfInBounds_toArray, List.set_cons_zero, List.set_cons_succ, i64_w, i32_w]
                      rfl
                    refine pure_ (i := 4) (N := some 25) (v := ?_) (a' := ?_) #[true, false, true, true, true, false, false, false] rfl rfl (any_of HT_.out (by kernel_rfl)) (fun _ _ _ h => h) (Or.inl ⟨by rfl, ?_⟩) ?_ ?_
                    rotate_left
                    · intro w'
                      go_simp
                      with_reducible rfl
                    rotate_left
                    · simp only [Act.put, List.setIfInBounds_toArray, List.set_cons_zero, List.set_cons_succ, i64_w, i32_w]
                      rfl
                    refine take_ (i := 1) (N := some 22) (v := ?_) (a' := ?_) #[true, true, true, true, true, false, false, false] rfl rfl (take_ofW HT_.out HW_.out (by kernel_rfl)) (fun _ _ _ h => h) (Or.inl ⟨by rfl, ?_⟩) hHeld ?_ ?_
                    rotate_left
                    · rintro w' ⟨s0, s1⟩
                      go_simp
                      with_reducible rfl
                    rotate_left
                    · simp only [Act.put, List.setIfInBounds_toArray, List.set_cons_zero, List.set_cons_succ, i64_w, i32_w]
                      rfl
                    refine pure_ (i := 5) (N := some 26) (v := ?_) (a' := ?_) #[true, true, true, true, true, true, false, false] rfl rfl (any_of HT_.out (by kernel_rfl)) (fun _ _ _ h => h) (Or.inl ⟨by rfl, ?_⟩) ?_ ?_
                    rotate_left
                    · intro w'
                      go_simp
                      with_reducible rfl
                    rotate_left
                    · simp only [Act.put, List.setIfInBounds_toArray, List.set_cons_zero, List.set_cons_succ, i64_w, i32_w]
                      rfl
                    refine pure_ (i := 6) (N := some 27) (v := ?_) (a' := ?_) #[true, true, true, true, true, true, true, false] rfl rfl (any_of HT_.out (by kernel_rfl)) (fun _ _ _ h => h) (Or.inl ⟨by rfl, ?_⟩) ?_ ?_
                    rotate_left
                    · intro w'
                      go_simp
                      with_reducible rfl
                    rotate_left
                    · simp only [Act.put, List.setIfInBounds_toArray, List.set_cons_zero, List.set_cons_succ, i64_w, i32_w]
                      rfl
                    refine last_ (i := 7) (N := none) #[true, true, true, true, true, true, true, true] rfl rfl (one_of HT_.out (by kernel_rfl)) (by decide) (fun K hK => ?_)
                    have hs23 : w22.cell? ⟨gb103, 1, none⟩ = some (.int .u32 x104001_1) := (blk_cell BK103.out 1).trans rfl
                    have hfs23 := blk_frozen BK103.out 1
                    have hns23_0 := NB102_103.out
                    have hms23_0 := NB103_102.out
                    refine skip_ (w1 := ?_) (by rfl) rfl ?_ ?_
                    rotate_left
                    · go_simp
                      rfl
                    refine hK.out _ _ ?_
                    clear hK K
                    refine done_ (done_of HT_.out (by kernel_rfl)) ?_
                    try go_wp2
                    go_roundg k1
                    case measure => have := HK1.out; omega
                    case rel => exact ⟨(wrap64 (x14_1 + 1)), (x103000_1), (x103001_1), (Go.bits .or .u32 x104001_1 (ji21)), (by first | rfl | (simp; done) | (simp [*]; done)), H', ⟨by have := HK1.out; omega⟩, ⟨by (with_reducible repeat (first | refine blk_drewN ?_ _ | refine blk_drew ?_ | refine blk_alloc ?_ _)); refine blk_far ?_ NB102_103.out _; (with_reducible repeat (first | refine blk_drewN ?_ _ | refine blk_drew ?_ | refine blk_alloc ?_ _)); exact BK102.out⟩, ⟨by (with_reducible repeat (first | refine blk_drewN ?_ _ | refine blk_drew ?_ | refine blk_alloc ?_ _)); refine blk_put (cs := #[.int .u16 a0, .int .u32 x104001_1]) ?_ 1 _ rfl; (with_reducible repeat (first | refine blk_drewN ?_ _ | refine blk_drew ?_ | refine blk_alloc ?_ _)); exact BK103.out⟩, ⟨by repeat (first | (with_reducible first | exact HB.out | apply below_alloc | apply pw_below_drewN | apply below_drew1 | refine below_set ?_ GE102.out | refine below_set ?_ GE103.out) | exact HB.out)⟩⟩
                  · rw [if_neg c20] at H
                    exact absurd H (by simp)
          · rw [if_neg c9] at H
            exact absurd H (by simp)
        · rw [if_neg c8] at H
          exact absurd H (by simp)
      · rw [if_neg c7] at H
        have c7b0 : decide (x14_1 < (l1.length : Int)) = false := decide_eq_false c7
        clear c7
        simp only [Option.some.injEq, Prod.mk.injEq] at H
        obtain ⟨rfl, rfl, rfl⟩ := H
        have hnb24 := NB103_102.out
        have hnc24 := NB102_103.out
        have hcz25_0 : wr.cell? ⟨gb103, 0, none⟩ = some (.int .u16 a0) := (blk_cell BK103.out 0).trans rfl
        have hcz25_1 : wr.cell? ⟨gb103, 1, none⟩ = some (.int .u32 x104001_1) := (blk_cell BK103.out 1).trans rfl
        have hfz25_0 := blk_frozen BK103.out 0
        have hfz25_1 := blk_frozen BK103.out 1
        have hcz26_0 : wr.cell? ⟨gb102, 0, none⟩ = some (.int .u16 x103000_1) := (blk_cell BK102.out 0).trans rfl
        have hcz26_1 : wr.cell? ⟨gb102, 1, none⟩ = some (.int .u32 x103001_1) := (blk_cell BK102.out 1).trans rfl
        have hfz26_0 := blk_frozen BK102.out 0
        have hfz26_1 := blk_frozen BK102.out 1
        go_wp2
        refine bodyPost_ret (results_ct rfl _ _ gb102 31 #[.int .u16 a0, .int .u32 x104001_1] (0, 0) _ rfl (by (with_reducible repeat (first | refine blk_drewN ?_ _ | refine blk_drew ?_ | refine blk_alloc ?_ _)); refine blk_put (cs := #[.int .u16 a0, .int .u32 x103001_1]) ?_ 1 _ rfl; (with_reducible repeat (first | refine blk_drewN ?_ _ | refine blk_drew ?_ | refine blk_alloc ?_ _)); refine blk_put (cs := #[.int .u16 x103000_1, .int .u32 x103001_1]) ?_ 0 _ rfl; (with_reducible repeat (first | refine blk_drewN ?_ _ | refine blk_drew ?_ | refine blk_alloc ?_ _)); exact BK102.out) Tryd.underlying31 rfl (by kernel_rfl)) rfl ?_
        exact ⟨by first | rfl | (simp [errW_none, errW_some] <;> rfl) | (simp [*, errW_none, errW_some] <;> rfl), by repeat (first | (with_reducible first | exact HB.out | apply below_alloc | apply pw_below_drewN | apply below_drew1 | refine below_set ?_ GE102.out | refine below_set ?_ GE103.out) | exact HB.out)⟩

end Go.Proofs.YtnphphlincbgmaaDoor.P

-- YtnphphlincbgmaaDoorP52
namespace Go.Proofs.YtnphphlincbgmaaDoor.P
open Go.RowKit Go.Proofs.YtnphphlincbgmaaDoorW.PrintWords Go.Proofs.YtnphphlincbgmaaDoorW.PrintLast Go.Proofs.YtnphphlincbgmaaDoorW.PrintMore
attribute [local go_sem] max2_int min2_int max_two min_two max_three min_three max_four min_four   -- for this text's walks alone
set_option linter.unusedVariables false
set_option linter.unusedSimpArgs false

/-! ### ackmap_Has: function 17 -/
def ackmap_Has.f (a0_0 : Int) (a0_1 : Int) (a1 : Int) : Option (Bool) := (seq_Before.f a1 a0_0).bind fun t162 => (if t162 = true then (some true) else ((seq_Ahead.f a0_0 a1).bind fun t163 => (if t163 ≥ 1 then (if t163 ≤ 32 then (if 0 ≤ (wrap64 (t163 - 1)) then (some ((Go.bits .and .u32 (shr .u32 a0_1 (wrap64 (t163 - 1))) 1) == 1)) else (none)) else (some false)) else (some false))))
set_option maxHeartbeats 8000000 in
set_option maxRecDepth 100000 in
theorem ackmap_Has.calls (a0_0 : Int) (a0_1 : Int) (a1 : Int) (r : Bool) (w : World) (h : ackmap_Has.f a0_0 a0_1 a1 = some r) :
    Calls Tryd.prog 17 #[.agg #[.int .u16 a0_0, .int .u32 a0_1], .int .u16 a1] w fun e w' => e = .returned (.bool r) ∧ Below w.heap.size w w' := by
  have hu31 := Tryd.underlying31
  have HB := Aside0.mk (Below.refl w.heap.size w)
  have H : ((seq_Before.f a1 a0_0).bind fun t162 => (if t162 = true then (some true) else ((seq_Ahead.f a0_0 a1).bind fun t163 => (if t163 ≥ 1 then (if t163 ≤ 32 then (if 0 ≤ (wrap64 (t163 - 1)) then (some ((Go.bits .and .u32 (shr .u32 a0_1 (wrap64 (t163 - 1))) 1) == 1)) else (none)) else (some false)) else (some false))))) = some r := h
  clear h
  replace H := Option.bind_eq_some_iff.mp H
  obtain ⟨t162, A30, H⟩ := H
  replace H : (if t162 = true then (some true) else ((seq_Ahead.f a0_0 a1).bind fun t163 => (if t163 ≥ 1 then (if t163 ≤ 32 then (if 0 ≤ (wrap64 (t163 - 1)) then (some ((Go.bits .and .u32 (shr .u32 a0_1 (wrap64 (t163 - 1))) 1) == 1)) else (none)) else (some false)) else (some false)))) = some r := H
  have A3 := Aside0.mk A30
  clear A30
  by_cases c4 : t162 = true
  · subst c4
    have H1 : (some true) = some r := by rw [if_pos rfl] at H; exact H
    clear H
    have H := H1
    clear H1
    obtain rfl := Option.some.inj H
    go_enter Tryd.func17, Tryd.ntmps17
    go_wp2_with (first | ((with_reducible refine gate_dst (N := 2) rfl ?_); refine box_event ?hg (N := 2) ?hd (cs := #[.int .u16 a0_0, .int .u32 a0_1]) (t := 31) ?hr ?_; (case hd => rfl); (case hg => rfl); (case hr => first | (go_simp; done) | (go_simp; rfl)); intro gb161 hg w5 hbox hb; have n0_ := Aside0.mk (below_step (by repeat (first | (with_reducible first | exact HB.out | apply below_alloc | apply pw_below_drewN | apply below_drew1) | exact HB.out)) hb); have n1_ := Aside0.mk (hbox); have n2_ := Aside0.mk ((by rw [hg]; exact (below_size (by repeat (first | (with_reducible first | exact HB.out | apply below_alloc | apply pw_below_drewN | apply below_drew1) | exact HB.out))) : w.heap.size ≤ gb161)); have n3_ := Aside0.mk ((by rw [hg]; exact (below_size (by repeat (first | (with_reducible first | exact HB.out | apply below_alloc | apply pw_below_drewN | apply below_drew1) | exact HB.out))) : w.heap.size ≤ gb161)); clear HB; have HB := n0_; have BK161 := n1_; have GW161 := n2_; have GE161 := n3_; clear n0_ n1_ n2_ n3_; clear hb hbox hg; have hcz6_0 : w5.cell? ⟨gb161, 0, none⟩ = some (.int .u16 a0_0) := (blk_cell BK161.out 0).trans rfl; have hcz6_1 : w5.cell? ⟨gb161, 1, none⟩ = some (.int .u32 a0_1) := (blk_cell BK161.out 1).trans rfl; have hfz6_0 := blk_frozen BK161.out 0; have hfz6_1 := blk_frozen BK161.out 1) | ((with_reducible refine gate_callee (f := 11) rfl ?_); refine goesL_ (some 9) rfl rfl Tryd.func11 (by kernel_rfl) rfl #[.int .u16 a1, .int .u16 a0_0] rfl (by (try simp only [List.map_toArray, List.map_cons, List.map_nil]); first | done | rfl | (simp only [List.length_drop, List.length_take]; rfl)) ?_; (with_reducible refine (seq_Before.calls a1 a0_0 true _ A3.out).mono ?_); rintro e w' ⟨rfl, ⟨nd, rfl⟩⟩; refine ⟨_, rfl, ?_⟩))
    go_ret
    exact ⟨by first | rfl | (simp [errW_none, errW_some] <;> rfl) | (simp [*, errW_none, errW_some] <;> rfl), by repeat (first | (with_reducible first | exact HB.out | apply below_alloc | apply pw_below_drewN | apply below_drew1 | refine below_set ?_ GE161.out) | exact HB.out)⟩
  · replace c4 := Bool.eq_false_iff.mpr c4
    subst c4
    have H1 : ((seq_Ahead.f a0_0 a1).bind fun t163 => (if t163 ≥ 1 then (if t163 ≤ 32 then (if 0 ≤ (wrap64 (t163 - 1)) then (some ((Go.bits .and .u32 (shr .u32 a0_1 (wrap64 (t163 - 1))) 1) == 1)) else (none)) else (some false)) else (some false))) = some r := by rw [if_neg (show ¬ (false = true) by decide)] at H; exact H
    clear H
    have H := H1
    clear H1
    replace H := Option.bind_eq_some_iff.mp H
    obtain ⟨t163, A70, H⟩ := H
    replace H : (if t163 ≥ 1 then (if t163 ≤ 32 then (if 0 ≤ (wrap64 (t163 - 1)) then (some ((Go.bits .and .u32 (shr .u32 a0_1 (wrap64 (t163 - 1))) 1) == 1)) else (none)) else (some false)) else (some false)) = some r := H
    have A7 := Aside0.mk A70
    clear A70
    by_cases c8 : t163 ≥ 1
    · rw [if_pos c8] at H
      have c8b0 : decide (1 ≤ t163) = true := decide_eq_true c8
      clear c8
      by_cases c9 : t163 ≤ 32
      · rw [if_pos c9] at H
        have c9b0 : decide (t163 ≤ 32) = true := decide_eq_true c9
        clear c9
        obtain ⟨ji10, hji10⟩ : ∃ j_ : Int, (wrap64 (t163 - 1)) = j_ := ⟨_, rfl⟩
        replace H : (if 0 ≤ (ji10) then (some ((Go.bits .and .u32 (shr .u32 a0_1 (ji10)) 1) == 1)) else (none)) = some r := by first | (rw [hji10] at H; exact H) | (simp only [hji10] at H ⊢; exact H)
        (try rw [hji10] at A3)
        (try rw [hji10] at A7)
        have hji10w : (IntKind.i64.wrap (t163 - 1)) = ji10 := (i64_w _).trans hji10
        by_cases c11 : 0 ≤ (ji10)
        · rw [if_pos c11] at H
          have c11b0 := eq_true c11
          have c11b1 : decide (0 ≤ (ji10)) = true := decide_eq_true c11
          clear c11
          obtain ⟨ji12, hji12⟩ : ∃ j_ : Int, (shr .u32 a0_1 (ji10)) = j_ := ⟨_, rfl⟩
          replace H : (some ((Go.bits .and .u32 (ji12) 1) == 1)) = some r := by first | (rw [hji12] at H; exact H) | (simp only [hji12] at H ⊢; exact H)
          (try rw [hji12] at A3)
          (try rw [hji12] at A7)
          have hji12_ : (a0_1 / 2 ^ min (ji10).toNat 32) = ji12 := hji12
          have hji12z : (ji10) ≤ 32 → (a0_1 / 2 ^ (ji10).toNat) = ji12 := shr_small hji12
          obtain rfl := Option.some.inj H
          go_enter Tryd.func17, Tryd.ntmps17
          go_wp2_with (first | ((with_reducible refine gate_dst (N := 2) rfl ?_); refine box_event ?hg (N := 2) ?hd (cs := #[.int .u16 a0_0, .int .u32 a0_1]) (t := 31) ?hr ?_; (case hd => rfl); (case hg => rfl); (case hr => first | (go_simp; done) | (go_simp; rfl)); intro gb161 hg w13 hbox hb; have n0_ := Aside0.mk (below_step (by repeat (first | (with_reducible first | exact HB.out | apply below_alloc | apply pw_below_drewN | apply below_drew1) | exact HB.out)) hb); have n1_ := Aside0.mk (hbox); have n2_ := Aside0.mk ((by rw [hg]; exact (below_size (by repeat (first | (with_reducible first | exact HB.out | apply below_alloc | apply pw_below_drewN | apply below_drew1) | exact HB.out))) : w.heap.size ≤ gb161)); have n3_ := Aside0.mk ((by rw [hg]; exact (below_size (by repeat (first | (with_reducible first | exact HB.out | apply below_alloc | apply pw_below_drewN | apply below_drew1) | exact HB.out))) : w.heap.size ≤ gb161)); clear HB; have HB := n0_; have BK161 := n1_; have GW161 := n2_; have GE161 := n3_; clear n0_ n1_ n2_ n3_; clear hb hbox hg; have hcz14_0 : w13.cell? ⟨gb161, 0, none⟩ = some (.int .u16 a0_0) := (blk_cell BK161.out 0).trans rfl; have hcz14_1 : w13.cell? ⟨gb161, 1, none⟩ = some (.int .u32 a0_1) := (blk_cell BK161.out 1).trans rfl; have hfz14_0 := blk_frozen BK161.out 0; have hfz14_1 := blk_frozen BK161.out 1) | ((with_reducible refine gate_callee (f := 11) rfl ?_); refine goesL_ (some 9) rfl rfl Tryd.func11 (by kernel_rfl) rfl #[.int .u16 a1, .int .u16 a0_0] rfl (by (try simp only [List.map_toArray, List.map_cons, List.map_nil]); first | done | rfl | (simp only [List.length_drop, List.length_take]; rfl)) ?_; (with_reducible refine (seq_Before.calls a1 a0_0 false _ A3.out).mono ?_); rintro e w' ⟨rfl, ⟨nd, rfl⟩⟩; refine ⟨_, rfl, ?_⟩) | ((with_reducible refine gate_callee (f := 10) rfl ?_); refine goesL_ (some 13) rfl rfl Tryd.func10 (by kernel_rfl) rfl #[.int .u16 a0_0, .int .u16 a1] rfl (by (try simp only [List.map_toArray, List.map_cons, List.map_nil]); first | done | rfl | (simp only [List.length_drop, List.length_take]; rfl)) ?_; (with_reducible refine (seq_Ahead.calls a0_0 a1 t163 _ A7.out).mono ?_); rintro e w' ⟨rfl, ⟨nd, rfl⟩⟩; refine ⟨_, rfl, ?_⟩))
          go_ret
          exact ⟨by first | rfl | (simp [errW_none, errW_some] <;> rfl) | (simp only [← hji10, ← hji12]; first | rfl | (simp [errW_none, errW_some] <;> rfl)) | (simp [*, errW_none, errW_some] <;> rfl), by repeat (first | (with_reducible first | exact HB.out | apply below_alloc | apply pw_below_drewN | apply below_drew1 | refine below_set ?_ GE161.out) | exact HB.out)⟩
        · rw [if_neg c11] at H
          exact absurd H (by simp)
      · rw [if_neg c9] at H
        have c9b0 : decide (t163 ≤ 32) = false := decide_eq_false c9
        clear c9
        obtain rfl := Option.some.inj H
        go_enter Tryd.func17, Tryd.ntmps17
        go_wp2_with (first | ((with_reducible refine gate_dst (N := 2) rfl ?_); refine box_event ?hg (N := 2) ?hd (cs := #[.int .u16 a0_0, .int .u32 a0_1]) (t := 31) ?hr ?_; (case hd => rfl); (case hg => rfl); (case hr => first | (go_simp; done) | (go_simp; rfl)); intro gb161 hg w15 hbox hb; have n0_ := Aside0.mk (below_step (by repeat (first | (with_reducible first | exact HB.out | apply below_alloc | apply pw_below_drewN | apply below_drew1) | exact HB.out)) hb); have n1_ := Aside0.mk (hbox); have n2_ := Aside0.mk ((by rw [hg]; exact (below_size (by repeat (first | (with_reducible first | exact HB.out | apply below_alloc | apply pw_below_drewN | apply below_drew1) | exact HB.out))) : w.heap.size ≤ gb161)); have n3_ := Aside0.mk ((by rw [hg]; exact (below_size (by repeat (first | (with_reducible first | exact HB.out | apply below_alloc | apply pw_below_drewN | apply below_drew1) | exact HB.out))) : w.heap.size ≤ gb161)); clear HB; have HB := n0_; have BK161 := n1_; have GW161 := n2_; have GE161 := n3_; clear n0_ n1_ n2_ n3_; clear hb hbox hg; have hcz16_0 : w15.cell? ⟨gb161, 0, none⟩ = some (.int .u16 a0_0) := (blk_cell BK161.out 0).trans rfl; have hcz16_1 : w15.cell? ⟨gb161, 1, none⟩ = some (.int .u32 a0_1) := (blk_cell BK161.out 1).trans rfl; have hfz16_0 := blk_frozen BK161.out 0; have hfz16_1 := blk_frozen BK161.out 1) | ((with_reducible refine gate_callee (f := 11) rfl ?_); refine goesL_ (some 9) rfl rfl Tryd.func11 (by kernel_rfl) rfl #[.int .u16 a1, .int .u16 a0_0] rfl (by (try simp only [List.map_toArray, List.map_cons, List.map_nil]); first | done | rfl | (simp only [List.length_drop, List.length_take]; rfl)) ?_; (with_reducible refine (seq_Before.calls a1 a0_0 false _ A3.out).mono ?_); rintro e w' ⟨rfl, ⟨nd, rfl⟩⟩; refine ⟨_, rfl, ?_⟩) | ((with_reducible refine gate_callee (f := 10) rfl ?_); refine goesL_ (some 13) rfl rfl Tryd.func10 (by kernel_rfl) rfl #[.int .u16 a0_0, .int .u16 a1] rfl (by (try simp only [List.map_toArray, List.map_cons, List.map_nil]); first | done | rfl | (simp only [List.length_drop, List.length_take]; rfl)) ?_; (with_reducible refine (seq_Ahead.calls a0_0 a1 t163 _ A7.out).mono ?_); rintro e w' ⟨rfl, ⟨nd, rfl⟩⟩; refine ⟨_, rfl, ?_⟩))
        go_ret
        exact ⟨by first | rfl | (simp [errW_none, errW_some] <;> rfl) | (simp [*, errW_none, errW_some] <;> rfl), by repeat (first | (with_reducible first | exact HB.out | apply below_alloc | apply pw_below_drewN | apply below_drew1 | refine below_set ?_ GE161.out) | exact HB.out)⟩
    · rw [if_neg c8] at H
      have c8b0 : decide (1 ≤ t163) = false := decide_eq_false c8
      clear c8
      obtain rfl := Option.some.inj H
      go_enter Tryd.func17, Tryd.ntmps17
      go_wp2_with (first | ((with_reducible refine gate_dst (N := 2) rfl ?_); refine box_event ?hg (N := 2) ?hd (cs := #[.int .u16 a0_0, .int .u32 a0_1]) (t := 31) ?hr ?_; (case hd => rfl); (case hg => rfl); (case hr => first | (go_simp; done) | (go_simp; rfl)); intro gb161 hg w17 hbox hb; have n0_ := Aside0.mk (below_step (by repeat (first | (with_reducible first | exact HB.out | apply below_alloc | apply pw_below_drewN | apply below_drew1) | exact HB.out)) hb); have n1_ := Aside0.mk (hbox); have n2_ := Aside0.mk ((by rw [hg]; exact (below_size (by repeat (first | (with_reducible first | exact HB.out | apply below_alloc | apply pw_below_drewN | apply below_drew1) | exact HB.out))) : w.heap.size ≤ gb161)); have n3_ := Aside0.mk ((by rw [hg]; exact (below_size (by repeat (first | (with_reducible first | exact HB.out | apply below_alloc | apply pw_below_drewN | apply below_drew1) | exact HB.out))) : w.heap.size ≤ gb161)); clear HB; have HB := n0_; have BK161 := n1_; have GW161 := n2_; have GE161 := n3_; clear n0_ n1_ n2_ n3_; clear hb hbox hg; have hcz18_0 : w17.cell? ⟨gb161, 0, none⟩ = some (.int .u16 a0_0) := (blk_cell BK161.out 0).trans rfl; have hcz18_1 : w17.cell? ⟨gb161, 1, none⟩ = some (.int .u32 a0_1) := (blk_cell BK161.out 1).trans rfl; have hfz18_0 := blk_frozen BK161.out 0; have hfz18_1 := blk_frozen BK161.out 1) | ((with_reducible refine gate_callee (f := 11) rfl ?_); refine goesL_ (some 9) rfl rfl Tryd.func11 (by kernel_rfl) rfl #[.int .u16 a1, .int .u16 a0_0] rfl (by (try simp only [List.map_toArray, List.map_cons, List.map_nil]); first | done | rfl | (simp only [List.length_drop, List.length_take]; rfl)) ?_; (with_reducible refine (seq_Before.calls a1 a0_0 false _ A3.out).mono ?_); rintro e w' ⟨rfl, ⟨nd, rfl⟩⟩; refine ⟨_, rfl, ?_⟩) | ((with_reducible refine gate_callee (f := 10) rfl ?_); refine goesL_ (some 13) rfl rfl Tryd.func10 (by kernel_rfl) rfl #[.int .u16 a0_0, .int .u16 a1] rfl (by (try simp only [List.map_toArray, List.map_cons, List.map_nil]); first | done | rfl | (simp only [List.length_drop, List.length_take]; rfl)) ?_; (with_reducible refine (seq_Ahead.calls a0_0 a1 t163 _ A7.out).mono ?_); rintro e w' ⟨rfl, ⟨nd, rfl⟩⟩; refine ⟨_, rfl, ?_⟩))
      go_ret
      exact ⟨by first | rfl | (simp [errW_none, errW_some] <;> rfl) | (simp [*, errW_none, errW_some] <;> rfl), by repeat (first | (with_reducible first | exact HB.out | apply below_alloc | apply pw_below_drewN | apply below_drew1 | refine below_set ?_ GE161.out) | exact HB.out)⟩

end Go.Proofs.YtnphphlincbgmaaDoor.P

-- YtnphphlincbgmaaDoorP53
namespace Go.Proofs.YtnphphlincbgmaaDoor.P
open Go.RowKit Go.Proofs.YtnphphlincbgmaaDoorW.PrintWords Go.Proofs.YtnphphlincbgmaaDoorW.PrintLast Go.Proofs.YtnphphlincbgmaaDoorW.PrintMore
attribute [local go_sem] max2_int min2_int max_two min_two max_three min_three max_four min_four   -- for this text's walks alone
set_option linter.unusedVariables false
set_option linter.unusedSimpArgs false

/-! ### ackmap_Missing: function 9 -/
def ackmap_Missing.l0 : Nat → Int → List Int → Int → Int → Int → Int → Option (List Int)
  | 0, _, _, _, _, _, _ => none
  | k + 1, x1, x7, x11, x12, x165000, x165001 => if x12 < x11 then ((seq_Plus.f x1 x12).bind fun t165 => ((ackmap_Has.f x165000 x165001 t165).bind fun t166 => (if t166 = true then (ackmap_Missing.l0 k x1 x7 x11 (wrap64 (x12 + 1)) x165000 x165001) else (if x7.length < 70368744177664 then (ackmap_Missing.l0 k x1 (x7 ++ [t165]) x11 (wrap64 (x12 + 1)) x165000 x165001) else (none))))) else (some x7)
def ackmap_Missing.f (k : Nat) (a0_0 : Int) (a0_1 : Int) (a1 : Int) (a2 : Int) : Option (List Int) := ackmap_Missing.l0 k a1 ([] : List Int) (mn a2 64) 0 a0_0 a0_1
theorem ackmap_Missing.mono_l : ∀ k, (∀ y0 y1 y2 y3 y4 y5, LeO (ackmap_Missing.l0 k y0 y1 y2 y3 y4 y5) (ackmap_Missing.l0 (k + 1) y0 y1 y2 y3 y4 y5))
  | 0 => fun _ _ _ _ _ _ r h => by simp [ackmap_Missing.l0] at h
  | k + 1 => by
    have ih0 := ackmap_Missing.mono_l k
    · intro y0 y1 y2 y3 y4 y5
      unfold ackmap_Missing.l0
      repeat' first
      | (with_reducible exact ih0 _ _ _ _ _ _)
      | (with_reducible exact LeO.refl _)
      | (with_reducible exact LeO.none _)
      | (with_reducible refine LeO.ite ?_ ?_)
      | (with_reducible refine LeO.bind ?_ (fun _ => ?_))
      | exact ih0 _ _ _ _ _ _
      | exact LeO.none _
      | refine LeO.ite ?_ ?_
      | refine LeO.bind ?_ (fun _ => ?_)
theorem ackmap_Missing.mono : ∀ a0 a1 a2 a3 k, LeO (ackmap_Missing.f k a0 a1 a2 a3) (ackmap_Missing.f (k + 1) a0 a1 a2 a3) := by
  intro a0 a1 a2 a3 k
  have ih0 := ackmap_Missing.mono_l k
  unfold ackmap_Missing.f
  repeat' first
      | (with_reducible exact ih0 _ _ _ _ _ _)
      | (with_reducible exact LeO.refl _)
      | (with_reducible exact LeO.none _)
      | (with_reducible refine LeO.ite ?_ ?_)
      | (with_reducible refine LeO.bind ?_ (fun _ => ?_))
      | exact ih0 _ _ _ _ _ _
      | exact LeO.none _
      | refine LeO.ite ?_ ?_
      | refine LeO.bind ?_ (fun _ => ?_)
set_option maxHeartbeats 8000000 in
set_option maxRecDepth 100000 in
theorem ackmap_Missing.calls (k : Nat) (a0_0 : Int) (a0_1 : Int) (a1 : Int) (a2 : Int) (r : List Int) (w : World) (h : ackmap_Missing.f k a0_0 a0_1 a1 a2 = some r) :
    Calls Tryd.prog 9 #[.agg #[.int .u16 a0_0, .int .u32 a0_1], .int .u16 a1, .int .i64 a2] w fun e w' => ∃ v0_ : Value, e = .returned (v0_) ∧ Kd.R (Kd.int .u16) 27 w' w.heap.size (fun _ => True) v0_ r ∧ Below w.heap.size w w' := by
  have hu31 := Tryd.underlying31
  have HB := Aside0.mk (Below.refl w.heap.size w)
  have H : (ackmap_Missing.l0 k a1 ([] : List Int) (mn a2 64) 0 a0_0 a0_1) = some r := h
  clear h
  obtain ⟨ji4, hji4⟩ : ∃ j_ : Int, (mn a2 64) = j_ := ⟨_, rfl⟩
  replace H : (ackmap_Missing.l0 k a1 ([] : List Int) ji4 0 a0_0 a0_1) = some r := by first | (rw [hji4] at H; exact H) | (simp only [hji4] at H ⊢; exact H)
  (try (have hji4h : ji4 ≤ 64 := by (rw [← hji4]; unfold mn; (repeat' split) <;> omega)))
  (try (have hji4g : ji4 ≤ 64 := by omega))
  have hji4_ : (if 64 < a2 then 64 else a2) = ji4 := hji4
  have H' := Aside0.mk H
  clear H
  go_enter Tryd.func9, Tryd.ntmps9
  go_wp2_with (first | ((with_reducible refine gate_dst (N := 3) rfl ?_); refine box_event ?hg (N := 3) ?hd (cs := #[.int .u16 a0_0, .int .u32 a0_1]) (t := 31) ?hr ?_; (case hd => rfl); (case hg => rfl); (case hr => first | (go_simp; done) | (go_simp; rfl)); intro gb164 hg w5 hbox hb; have n0_ := Aside0.mk (below_step (by repeat (first | (with_reducible first | exact HB.out | apply below_alloc | apply pw_below_drewN | apply below_drew1) | exact HB.out)) hb); have n1_ := Aside0.mk (hbox); have n2_ := Aside0.mk ((by rw [hg]; exact (below_size (by repeat (first | (with_reducible first | exact HB.out | apply below_alloc | apply pw_below_drewN | apply below_drew1) | exact HB.out))) : w.heap.size ≤ gb164)); have n3_ := Aside0.mk ((by rw [hg]; exact (below_size (by repeat (first | (with_reducible first | exact HB.out | apply below_alloc | apply pw_below_drewN | apply below_drew1) | exact HB.out))) : w.heap.size ≤ gb164)); clear HB; have HB := n0_; have BK164 := n1_; have GW164 := n2_; have GE164 := n3_; clear n0_ n1_ n2_ n3_; clear hb hbox hg))
  go_loopg [7, 12] k (fun kq v7 v12 w' => ∃ (x7_1 : List Int) (x12_1 : Int), v12 = .int .i64 x12_1 ∧ Aside0 (ackmap_Missing.l0 kq a1 x7_1 ji4 x12_1 a0_0 a0_1 = some r) ∧ Aside0 (kq ≤ k) ∧ Aside0 (Kd.R (Kd.int .u16) 27 w' w.heap.size (fun _ => True) v7 x7_1) ∧ Aside0 (w'.heap[gb164]? = some (.cells #[.int .u16 a0_0, .int .u32 a0_1] 31 (0, 0))) ∧ Aside0 (Below w.heap.size w w'))
  case atStart => exact ⟨(([] : List Int)), (0), (by first | rfl | (simp; done) | (simp [*]; done)), H', ⟨Nat.le_refl _⟩, ⟨by first | exact Kd.R_nil _ _ _ _ _ | exact Kd.N_nil _ _ _ _ _ | exact Kd.V_nil _ _ _ _ _ | exact Kd.Q_nil _ _ _ _ _ | exact Kd.S_nil _ _ _ _ _⟩, ⟨by (with_reducible repeat (first | refine blk_drewN ?_ _ | refine blk_drew ?_ | refine blk_alloc ?_ _)); exact BK164.out⟩, ⟨by repeat (first | (with_reducible first | exact HB.out | apply below_alloc | apply pw_below_drewN | apply below_drew1 | refine below_set ?_ GE164.out) | exact HB.out)⟩⟩
  case round =>
    clear H'
    try clear p2
    obtain ⟨x7_1, x12_1, rfl, HA, HK1, HO_7, BK164, HB⟩ := hrel
    cases gk with
    | zero => exact absurd HA.out (by simp [ackmap_Missing.l0])
    | succ k1 =>
      have H := HA.out
      clear HA
      simp only [ackmap_Missing.l0] at H
      by_cases c6 : x12_1 < ji4
      · rw [if_pos c6] at H
        have c6b0 : decide (x12_1 < ji4) = true := decide_eq_true c6
        clear c6
        replace H := Option.bind_eq_some_iff.mp H
        obtain ⟨t165, A70, H⟩ := H
        replace H : ((ackmap_Has.f a0_0 a0_1 t165).bind fun t166 => (if t166 = true then (ackmap_Missing.l0 k1 a1 x7_1 ji4 (wrap64 (x12_1 + 1)) a0_0 a0_1) else (if x7_1.length < 70368744177664 then (ackmap_Missing.l0 k1 a1 (x7_1 ++ [t165]) ji4 (wrap64 (x12_1 + 1)) a0_0 a0_1) else (none)))) = some r := H
        have A7 := Aside0.mk A70
        clear A70
        replace H := Option.bind_eq_some_iff.mp H
        obtain ⟨t166, A80, H⟩ := H
        replace H : (if t166 = true then (ackmap_Missing.l0 k1 a1 x7_1 ji4 (wrap64 (x12_1 + 1)) a0_0 a0_1) else (if x7_1.length < 70368744177664 then (ackmap_Missing.l0 k1 a1 (x7_1 ++ [t165]) ji4 (wrap64 (x12_1 + 1)) a0_0 a0_1) else (none))) = some r := H
        have A8 := Aside0.mk A80
        clear A80
        by_cases c9 : t166 = true
        · subst c9
          have H1 : (ackmap_Missing.l0 k1 a1 x7_1 ji4 (wrap64 (x12_1 + 1)) a0_0 a0_1) = some r := by rw [if_pos rfl] at H; exact H
          clear H
          have H := H1
          clear H1
          have H' := Aside0.mk H
          clear H
          go_wp2_with (first | ((with_reducible refine gate_callee (f := 4) rfl ?_); refine goesL_ (some 17) rfl rfl Tryd.func4 (by kernel_rfl) rfl #[.int .u16 a1, .int .i64 x12_1] rfl (by (try simp only [List.map_toArray, List.map_cons, List.map_nil]); first | done | rfl | (simp only [List.length_drop, List.length_take]; rfl)) ?_; (with_reducible refine (seq_Plus.calls a1 x12_1 t165 _ A7.out).mono ?_); rintro e w' ⟨rfl, ⟨nd, rfl⟩⟩; refine ⟨_, rfl, ?_⟩; have hcz10_0 : wr.cell? ⟨gb164, 0, none⟩ = some (.int .u16 a0_0) := (blk_cell BK164.out 0).trans rfl; have hcz10_1 : wr.cell? ⟨gb164, 1, none⟩ = some (.int .u32 a0_1) := (blk_cell BK164.out 1).trans rfl; have hfz10_0 := blk_frozen BK164.out 0; have hfz10_1 := blk_frozen BK164.out 1) | ((with_reducible refine gate_callee (f := 17) rfl ?_); refine goesL_ (some 20) rfl rfl Tryd.func17 (by kernel_rfl) rfl #[.agg #[.int .u16 a0_0, .int .u32 a0_1], .int .u16 t165] rfl (by (try simp only [List.map_toArray, List.map_cons, List.map_nil]); first | done | rfl | (simp only [List.length_drop, List.length_take]; rfl)) ?_; (with_reducible refine (ackmap_Has.calls a0_0 a0_1 t165 true _ A8.out).mono ?_); rintro e w11 ⟨rfl, hb⟩; refine ⟨_, rfl, ?_⟩; have n0_ := Aside0.mk (Kd.R_below (by (with_reducible repeat (first | apply Kd.R_alloc | apply Kd.R_drewN | apply Kd.R_drew)); exact HO_7.out) hb); have n1_ := Aside0.mk (blk_below (g := gb164) (o := .cells #[.int .u16 a0_0, .int .u32 a0_1] 31 (0, 0)) (by (with_reducible repeat (first | refine blk_drewN ?_ _ | refine blk_drew ?_ | refine blk_alloc ?_ _)); exact BK164.out) hb); have n2_ := Aside0.mk (below_step (by repeat (first | (with_reducible first | exact HB.out | apply below_alloc | apply pw_below_drewN | apply below_drew1 | refine below_set ?_ GE164.out) | exact HB.out)) hb); clear HO_7; clear BK164; clear HB; have HO_7 := n0_; have BK164 := n1_; have HB := n2_; clear n0_ n1_ n2_; (try clear hb); (try clear hb2); (try clear hk); (try clear hi)))
          go_roundg k1
          case measure => have := HK1.out; omega
          case rel => exact ⟨(x7_1), (wrap64 (x12_1 + 1)), (by first | rfl | (simp; done) | (simp [*]; done)), H', ⟨by have := HK1.out; omega⟩, ⟨by (with_reducible repeat (first | apply Kd.R_alloc | apply Kd.R_drewN | apply Kd.R_drew)); exact HO_7.out⟩, ⟨by (with_reducible repeat (first | refine blk_drewN ?_ _ | refine blk_drew ?_ | refine blk_alloc ?_ _)); exact BK164.out⟩, ⟨by repeat (first | (with_reducible first | exact HB.out | apply below_alloc | apply pw_below_drewN | apply below_drew1 | refine below_set ?_ GE164.out) | exact HB.out)⟩⟩
        · replace c9 := Bool.eq_false_iff.mpr c9
          subst c9
          have H1 : (if x7_1.length < 70368744177664 then (ackmap_Missing.l0 k1 a1 (x7_1 ++ [t165]) ji4 (wrap64 (x12_1 + 1)) a0_0 a0_1) else (none)) = some r := by rw [if_neg (show ¬ (false = true) by decide)] at H; exact H
          clear H
          have H := H1
          clear H1
          by_cases c12 : x7_1.length < 70368744177664
          · rw [if_pos c12] at H
            have LMc12 := Aside0.mk c12
            clear c12
            obtain ⟨y167, hy167⟩ : ∃ y_ : List Int, y_ = (x7_1 ++ [t165]) := ⟨_, rfl⟩
            replace H : (ackmap_Missing.l0 k1 a1 y167 ji4 (wrap64 (x12_1 + 1)) a0_0 a0_1) = some r := by first | (rw [hy167]; with_reducible exact H) | (have H2_ := (Option.bind_some _ _).symm.trans H; rw [hy167]; with_reducible exact H2_) | (have H2_ := (Option.bind_some _ _).symm.trans H; with_reducible exact H2_) | with_reducible exact H | (rw [hy167]; exact H) | exact H
            have Ny167 := Aside0.mk hy167
            clear hy167
            have H' := Aside0.mk H
            clear H
            go_wp2_with (first | ((with_reducible refine gate_callee (f := 4) rfl ?_); refine goesL_ (some 17) rfl rfl Tryd.func4 (by kernel_rfl) rfl #[.int .u16 a1, .int .i64 x12_1] rfl (by (try simp only [List.map_toArray, List.map_cons, List.map_nil]); first | done | rfl | (simp only [List.length_drop, List.length_take]; rfl)) ?_; (with_reducible refine (seq_Plus.calls a1 x12_1 t165 _ A7.out).mono ?_); rintro e w' ⟨rfl, ⟨nd, rfl⟩⟩; refine ⟨_, rfl, ?_⟩; have hcz13_0 : wr.cell? ⟨gb164, 0, none⟩ = some (.int .u16 a0_0) := (blk_cell BK164.out 0).trans rfl; have hcz13_1 : wr.cell? ⟨gb164, 1, none⟩ = some (.int .u32 a0_1) := (blk_cell BK164.out 1).trans rfl; have hfz13_0 := blk_frozen BK164.out 0; have hfz13_1 := blk_frozen BK164.out 1) | ((with_reducible refine gate_callee (f := 17) rfl ?_); refine goesL_ (some 20) rfl rfl Tryd.func17 (by kernel_rfl) rfl #[.agg #[.int .u16 a0_0, .int .u32 a0_1], .int .u16 t165] rfl (by (try simp only [List.map_toArray, List.map_cons, List.map_nil]); first | done | rfl | (simp only [List.length_drop, List.length_take]; rfl)) ?_; (with_reducible refine (ackmap_Has.calls a0_0 a0_1 t165 false _ A8.out).mono ?_); rintro e w14 ⟨rfl, hb⟩; refine ⟨_, rfl, ?_⟩; have n0_ := Aside0.mk (Kd.R_below (by (with_reducible repeat (first | apply Kd.R_alloc | apply Kd.R_drewN | apply Kd.R_drew)); exact HO_7.out) hb); have n1_ := Aside0.mk (blk_below (g := gb164) (o := .cells #[.int .u16 a0_0, .int .u32 a0_1] 31 (0, 0)) (by (with_reducible repeat (first | refine blk_drewN ?_ _ | refine blk_drew ?_ | refine blk_alloc ?_ _)); exact BK164.out) hb); have n2_ := Aside0.mk (below_step (by repeat (first | (with_reducible first | exact HB.out | apply below_alloc | apply pw_below_drewN | apply below_drew1 | refine below_set ?_ GE164.out) | exact HB.out)) hb); clear HO_7; clear BK164; clear HB; have HO_7 := n0_; have BK164 := n1_; have HB := n2_; clear n0_ n1_ n2_; (try clear hb); (try clear hb2); (try clear hk); (try clear hi)) | ((with_reducible refine gate_builtin (b := .append) (xs := #[.tmp 22, .tmp 24]) rfl ?_); at_builtin; refine Kd.R_append (Kd.int .u16) (w0 := w) w.heap.size rfl (.tmp 22) (.tmp 24) 24 27 (.int .u16 0) 2 rfl Tryd.underlying24 info27 rfl (by decide) (by omega) u7 x7_1 t165 [.int .u16 t165] (fun _ => True) (fun _ => False) rfl rfl ?aP (fun _ hk => hk.elim) ?aF ?aO ?aB ?aS ?aL ?_; (case aP => exact rfl); (case aB => exact (by repeat (first | (with_reducible first | exact HB.out | apply below_alloc | apply pw_below_drewN | apply below_drew1 | refine below_set ?_ GE164.out) | exact HB.out))); (case aF => exact (fun _ _ => trivial)); (case aO => exact (by (with_reducible repeat (first | apply Kd.R_alloc | apply Kd.R_drewN | apply Kd.R_drew)); exact HO_7.out)); (case aS => exact (below_size (by repeat (first | (with_reducible first | exact HB.out | apply below_alloc | apply pw_below_drewN | apply below_drew1 | refine below_set ?_ GE164.out) | exact HB.out)))); (case aL => have := LMc12.out; omega); intro v168 w15 ho hb hg hat; rw [← Ny167.out] at ho; have n0_ := Aside0.mk (blk_grown (g := gb164) (o := .cells #[.int .u16 a0_0, .int .u32 a0_1] 31 (0, 0)) (by (with_reducible repeat (first | refine blk_drewN ?_ _ | refine blk_drew ?_ | refine blk_alloc ?_ _)); exact BK164.out) hg (Kd.R_ne HO_7.out BK164.out (by decide))); have n1_ := Aside0.mk (hb); have n2_ := Aside0.mk (ho); clear BK164; clear HB; clear HO_7; have BK164 := n0_; have HB := n1_; have HO169 := n2_; clear n0_ n1_ n2_; clear ho hb hg hat))
            go_roundg k1
            case measure => have := HK1.out; omega
            case rel => exact ⟨(y167), (wrap64 (x12_1 + 1)), (by first | rfl | (simp; done) | (simp [*]; done)), H', ⟨by have := HK1.out; omega⟩, ⟨by (with_reducible repeat (first | apply Kd.R_alloc | apply Kd.R_drewN | apply Kd.R_drew)); exact HO169.out⟩, ⟨by (with_reducible repeat (first | refine blk_drewN ?_ _ | refine blk_drew ?_ | refine blk_alloc ?_ _)); exact BK164.out⟩, ⟨by repeat (first | (with_reducible first | exact HB.out | apply below_alloc | apply pw_below_drewN | apply below_drew1 | refine below_set ?_ GE164.out) | exact HB.out)⟩⟩
          · rw [if_neg c12] at H
            exact absurd H (by simp)
      · rw [if_neg c6] at H
        have c6b0 : decide (x12_1 < ji4) = false := decide_eq_false c6
        clear c6
        obtain rfl := Option.some.inj H
        go_wp2
        go_ret
        exact ⟨_, by first | rfl | (simp [errW_none, errW_some] <;> rfl) | (simp only [← hji4]; first | rfl | (simp [errW_none, errW_some] <;> rfl)) | (simp [*, errW_none, errW_some] <;> rfl), by (with_reducible repeat (first | apply Kd.R_alloc | apply Kd.R_drewN | apply Kd.R_drew)); exact HO_7.out, by repeat (first | (with_reducible first | exact HB.out | apply below_alloc | apply pw_below_drewN | apply below_drew1 | refine below_set ?_ GE164.out) | exact HB.out)⟩

end Go.Proofs.YtnphphlincbgmaaDoor.P

-- YtnphphlincbgmaaDoorPAkMap
namespace Go.Proofs.YtnphphlincbgmaaDoor.P
open Go Go.RowKit Go.Proofs.YtnphphlincbgmaaDoorW.PrintWords Go.Proofs.YtnphphlincbgmaaDoorW.PrintLast Go.Proofs.YtnphphlincbgmaaDoorW.PrintMore
set_option linter.unusedVariables false
set_option linter.unusedSimpArgs false

/-- How far behind the base a number is asked. -/
def aN (x : Int) : Nat := ((IntKind.u64.wrap x).tmod 32).toNat + 1
theorem aN_in (x : Int) : 1 ≤ aN x ∧ aN x ≤ 32 := by
  have h3 : (IntKind.u64.wrap x).tmod 32 < 32 := Int.tmod_lt_of_pos _ (by decide)
  unfold aN; omega
theorem aN_eq (x : Int) : IntKind.i64.wrap ((IntKind.u64.wrap x).tmod 32) = (aN x : Int) - 1 := by
  have h1 : 0 ≤ IntKind.u64.wrap x := by rw [IntKind.wrap_u64]; omega
  have h2 : 0 ≤ (IntKind.u64.wrap x).tmod 32 := Int.tmod_nonneg _ h1
  have h3 : (IntKind.u64.wrap x).tmod 32 < 32 := Int.tmod_lt_of_pos _ (by decide)
  rw [IntKind.wrap_i64]; unfold aN; omega
/-- The number so far behind the base. -/
def pl (b : Int) (n : Nat) : Int := IntKind.u16.wrap (b + IntKind.u16.wrap (n : Int))
theorem plus_f (b : Int) (n : Nat) : seq_Plus.f b (n : Int) = some (pl b n) := rfl
theorem ahead_f {b : Int} (hb : 0 ≤ b ∧ b ≤ 65535) {n : Nat} (hn : n ≤ 33) : seq_Ahead.f b (pl b n) = some (n : Int) := by
  unfold seq_Ahead.f pl
  refine congrArg some ?_
  rw [IntKind.wrap_u16, IntKind.wrap_u16, IntKind.wrap_u16]
  unfold wrap64; omega
theorem before_f {b : Int} (hb : 0 ≤ b ∧ b ≤ 65535) {n : Nat} (hn : n ≤ 33) : seq_Before.f (pl b n) b = some false := by
  have e : seq_Ahead.f (pl b n) b = some (if n = 0 then 0 else 65536 - (n : Int)) := by
    unfold seq_Ahead.f pl
    refine congrArg some ?_
    rw [IntKind.wrap_u16, IntKind.wrap_u16, IntKind.wrap_u16]
    by_cases h0 : n = 0
    · rw [if_pos h0]; subst h0; unfold wrap64; omega
    · rw [if_neg h0]; unfold wrap64; omega
  unfold seq_Before.f
  rw [e, Option.bind_some]
  by_cases h0 : n = 0
  · rw [if_pos h0, if_neg (by decide)]
  · rw [if_neg h0, if_pos (by omega), decide_eq_false (by omega)]
/-- The bits of what has come. -/
def ors (ms : List Nat) : Nat := ms.foldl (fun m n => m ||| 2 ^ (n - 1)) 0
theorem ors_snoc (ms : List Nat) (n : Nat) : ors (ms ++ [n]) = ors ms ||| 2 ^ (n - 1) := by unfold ors; rw [List.foldl_append]; rfl
theorem ors_lt (ms : List Nat) (h : ∀ n ∈ ms, 1 ≤ n ∧ n ≤ 32) : ors ms < 2 ^ 32 := by
  have key : ∀ (l : List Nat) (m : Nat), m < 2 ^ 32 → (∀ n ∈ l, 1 ≤ n ∧ n ≤ 32) → l.foldl (fun m n => m ||| 2 ^ (n - 1)) m < 2 ^ 32 := by
    intro l
    induction l with
    | nil => intro m hm _; exact hm
    | cons n l ih =>
      intro m hm hl
      have hn := hl n List.mem_cons_self
      refine ih _ (Nat.or_lt_two_pow hm ?_) (fun z hz => hl z (List.mem_cons_of_mem _ hz))
      exact Nat.pow_lt_pow_right (by decide) (by omega)
  exact key ms 0 (by decide) h
theorem ors_bit (ms : List Nat) (h : ∀ n ∈ ms, 1 ≤ n ∧ n ≤ 32) (j : Nat) : (ors ms).testBit j = decide (j + 1 ∈ ms) := by
  have key : ∀ (l : List Nat) (m : Nat), (∀ n ∈ l, 1 ≤ n ∧ n ≤ 32) → (l.foldl (fun m n => m ||| 2 ^ (n - 1)) m).testBit j = (m.testBit j || decide (j + 1 ∈ l)) := by
    intro l
    induction l with
    | nil => intro m _; simp
    | cons n l ih =>
      intro m hl
      have hn := hl n List.mem_cons_self
      rw [List.foldl_cons, ih _ (fun z hz => hl z (List.mem_cons_of_mem _ hz)), Nat.testBit_or, Nat.testBit_two_pow, Bool.or_assoc]
      congr 1
      have e : decide (n - 1 = j) = decide (j + 1 = n) := by
        by_cases c : n - 1 = j
        · rw [decide_eq_true c, decide_eq_true (by omega)]
        · rw [decide_eq_false c, decide_eq_false (by omega)]
      rw [e]
      simp [List.mem_cons]
  have := key ms 0 h
  rw [Nat.zero_testBit, Bool.false_or] at this
  exact this
theorem shl32 (j : Nat) (h : j < 32) : shl .u32 1 (j : Int) = ((2 ^ j : Nat) : Int) := by
  have all : ∀ s : Fin 32, shl .u32 1 ((s.val : Nat) : Int) = ((2 ^ s.val : Nat) : Int) := by decide +kernel
  exact all ⟨j, h⟩
theorem shr32 (m j : Nat) (h : j < 32) : shr .u32 (m : Int) (j : Int) = ((m / 2 ^ j : Nat) : Int) := by
  unfold shr
  rw [show min ((j : Int)).toNat IntKind.u32.bits = j from by simp [IntKind.bits]; omega]
  rw [show ((2 : Int) ^ j) = ((2 ^ j : Nat) : Int) from by simp]
  exact (Int.natCast_ediv m (2 ^ j)).symm
theorem of_l0 {b : Int} (hb : 0 ≤ b ∧ b ≤ 65535) (ms : List Nat) (hms : ∀ n ∈ ms, 1 ≤ n ∧ n ≤ 32) (hl : ms.length ≤ 20) (d : Nat) : ∀ k i : Nat, i + d = ms.length → d < k →
    ackmap_Of.l0 k b (ms.map (pl b)) ((ms.map (pl b)).length : Int) (i : Int) b ((ors (ms.take i) : Nat) : Int) = some (b, ((ors ms : Nat) : Int), 0) := by
  have hll : (ms.map (pl b)).length = ms.length := List.length_map ..
  induction d with
  | zero =>
    intro k i hi hk
    obtain ⟨k, rfl⟩ := pred hk
    rw [ackmap_Of.l0.eq_2, if_neg (by omega), List.take_of_length_le (by omega)]
  | succ d ih =>
    intro k i hi hk
    obtain ⟨k, rfl⟩ := pred hk
    have hlt : i < ms.length := by omega
    have hn := hms ms[i] (List.getElem_mem hlt)
    have hrd : rd (ms.map (pl b)) (i : Int) = pl b ms[i] := by
      rw [rd_get _ i (by omega), List.getElem_map]
    have h1 := ih k (i + 1) (by omega) (by omega)
    have hw : wrap64 ((ms[i] : Int) - 1) = ((ms[i] - 1 : Nat) : Int) := by unfold wrap64; omega
    have hor : Go.bits .or .u32 ((ors (ms.take i) : Nat) : Int) (shl .u32 1 (wrap64 ((ms[i] : Int) - 1))) = ((ors (ms.take (i + 1)) : Nat) : Int) := by
      rw [hw, shl32 _ (by omega), List.take_succ_eq_append_getElem hlt, ors_snoc]
      refine Go.u32_or_nat _ _ ?_ ?_
      · exact Nat.lt_of_lt_of_le (ors_lt _ (fun n hn => hms n (List.mem_of_mem_take hn))) (by decide)
      · exact Nat.lt_of_lt_of_le (Nat.pow_lt_pow_right (by decide) (by omega) : 2 ^ (ms[i] - 1) < 2 ^ 32) (by decide)
    rw [ackmap_Of.l0.eq_2, if_pos (by omega), if_pos (by omega), if_pos (by omega), hrd, ahead_f hb (by omega), Option.bind_some, before_f hb (by omega), Option.bind_some, if_neg (by decide), if_neg (by omega), if_neg (by omega), if_pos (by rw [hw]; omega), hor, wrap_succ i (by omega)]
    exact h1
theorem of_f {b : Int} (hb : 0 ≤ b ∧ b ≤ 65535) (ms : List Nat) (hms : ∀ n ∈ ms, 1 ≤ n ∧ n ≤ 32) (hl : ms.length ≤ 20) : ackmap_Of.f 100 b (ms.map (pl b)) = some (b, ((ors ms : Nat) : Int), 0) :=
  of_l0 hb ms hms hl ms.length 100 0 (by omega) (by omega)
theorem has_f {b : Int} (hb : 0 ≤ b ∧ b ≤ 65535) (ms : List Nat) (hms : ∀ n ∈ ms, 1 ≤ n ∧ n ≤ 32) (n : Nat) (hn : n ≤ 32) : ackmap_Has.f b ((ors ms : Nat) : Int) (pl b n) = some (decide (n ∈ ms)) := by
  unfold ackmap_Has.f
  rw [before_f hb (by omega), Option.bind_some, if_neg (by decide), ahead_f hb (by omega), Option.bind_some]
  by_cases h0 : n = 0
  · subst h0
    rw [if_neg (by decide), decide_eq_false (fun h => by have := hms 0 h; omega)]
  · have hw : wrap64 ((n : Int) - 1) = ((n - 1 : Nat) : Int) := by unfold wrap64; omega
    rw [if_pos (by omega), if_pos (by omega), if_pos (by rw [hw]; omega), hw, shr32 _ _ (by omega)]
    have hlt := ors_lt ms hms
    have hdv : ors ms / 2 ^ (n - 1) ≤ ors ms := Nat.div_le_self _ _
    have ea : Go.bits .and .u32 ((ors ms / 2 ^ (n - 1) : Nat) : Int) 1 = ((ors ms / 2 ^ (n - 1) % 2 : Nat) : Int) := by
      rw [show (1 : Int) = ((1 : Nat) : Int) from rfl, Go.u32_and_nat _ 1 (by omega) (by decide), Go.nat_mask1]
    rw [ea]
    have hb := ors_bit ms hms (n - 1)
    rw [Nat.testBit_eq_decide_div_mod_eq, show n - 1 + 1 = n by omega] at hb
    refine congrArg some ?_
    by_cases c : n ∈ ms
    · rw [decide_eq_true c] at hb ⊢
      have := of_decide_eq_true hb
      rw [this]; rfl
    · rw [decide_eq_false c] at hb ⊢
      have := of_decide_eq_false hb
      have e2 : ors ms / 2 ^ (n - 1) % 2 = 0 := by omega
      rw [e2]; rfl
/-- What is missing among the first n. -/
def ml (b : Int) (ms : List Nat) : Nat → List Int
  | 0 => []
  | n + 1 => if n ∈ ms then ml b ms n else ml b ms n ++ [pl b n]
theorem ml_le (b : Int) (ms : List Nat) : ∀ n, (ml b ms n).length ≤ n
  | 0 => Nat.le_refl _
  | n + 1 => by
    have := ml_le b ms n
    unfold ml
    split
    · omega
    · rw [List.length_append]; show _ + 1 ≤ _; omega
theorem missing_l0 {b : Int} (hb : 0 ≤ b ∧ b ≤ 65535) (ms : List Nat) (hms : ∀ n ∈ ms, 1 ≤ n ∧ n ≤ 32) (d : Nat) : ∀ k i : Nat, i + d = 33 → d < k →
    ackmap_Missing.l0 k b (ml b ms i) 33 (i : Int) b ((ors ms : Nat) : Int) = some (ml b ms 33) := by
  induction d with
  | zero =>
    intro k i hi hk
    obtain ⟨k, rfl⟩ := pred hk
    obtain rfl : i = 33 := by omega
    rw [ackmap_Missing.l0.eq_2, if_neg (by decide)]
  | succ d ih =>
    intro k i hi hk
    obtain ⟨k, rfl⟩ := pred hk
    have h1 := ih k (i + 1) (by omega) (by omega)
    have hle := ml_le b ms i
    rw [ackmap_Missing.l0.eq_2, if_pos (by omega), plus_f, Option.bind_some, has_f hb ms hms i (by omega), Option.bind_some, wrap_succ i (by omega)]
    unfold ml at h1
    by_cases c : i ∈ ms
    · rw [if_pos c] at h1
      rw [decide_eq_true c, if_pos rfl]; exact h1
    · rw [if_neg c] at h1
      rw [decide_eq_false c, if_neg (by decide), if_pos (by omega)]; exact h1
theorem missing_f {b : Int} (hb : 0 ≤ b ∧ b ≤ 65535) (ms : List Nat) (hms : ∀ n ∈ ms, 1 ≤ n ∧ n ≤ 32) : ackmap_Missing.f 100 b ((ors ms : Nat) : Int) b 33 = some (ml b ms 33) :=
  missing_l0 hb ms hms 33 100 0 (by omega) (by omega)
theorem ml_at (b : Int) (ms : List Nat) (n : Nat) (hn : n ∉ ms) : ∀ m, n + 1 ≤ m → (ml b ms n).length < (ml b ms m).length ∧ (ml b ms m).getD (ml b ms n).length 0 = pl b n
  | 0, h => by omega
  | m + 1, h => by
    by_cases e : n = m
    · subst e
      have e2 : ml b ms (n + 1) = ml b ms n ++ [pl b n] := by show (if n ∈ ms then _ else _) = _; rw [if_neg hn]
      rw [e2]
      refine ⟨by rw [List.length_append]; show _ < _ + 1; omega, ?_⟩
      have : (ml b ms n ++ [pl b n])[(ml b ms n).length]? = some (pl b n) := by simp
      rw [List.getD_eq_getElem?_getD, this]; rfl
    · have ih := ml_at b ms n hn m (by omega)
      by_cases c : m ∈ ms
      · have e2 : ml b ms (m + 1) = ml b ms m := by show (if m ∈ ms then _ else _) = _; rw [if_pos c]
        rw [e2]; exact ih
      · have e2 : ml b ms (m + 1) = ml b ms m ++ [pl b m] := by show (if m ∈ ms then _ else _) = _; rw [if_neg c]
        rw [e2]
        refine ⟨by rw [List.length_append]; omega, ?_⟩
        rw [List.getD_eq_getElem?_getD, List.getElem?_append_left ih.1, ← List.getD_eq_getElem?_getD]
        exact ih.2
end Go.Proofs.YtnphphlincbgmaaDoor.P

-- YtnphphlincbgmaaDoorPCrc32M
namespace Go.Proofs.YtnphphlincbgmaaDoor.P
open Go.RowKit Go.Proofs.YtnphphlincbgmaaDoorW.PrintWords Go.Proofs.YtnphphlincbgmaaDoorW.PrintLast Go.Proofs.YtnphphlincbgmaaDoorW.PrintMore
set_option linter.unusedVariables false

/-- One round of the register. -/
def rr (n : BitVec 32) : BitVec 32 := if n.getLsbD 0 then (n >>> 1) ^^^ 0xEDB88320#32 else n >>> 1
def sp (n : BitVec 32) (c : BitVec 8) : BitVec 32 := it rr 8 (n ^^^ c.setWidth 32)
def spI (n : BitVec 32) (c : Int) : BitVec 32 := sp n (BitVec.ofInt 8 c)
/-- The register behind a text; the sum is its complement. -/
def reg32 (l : List Int) : BitVec 32 := l.foldl spI 0xFFFFFFFF#32
def sum32 (l : List Int) : BitVec 32 := ~~~ (reg32 l)
theorem rr_xor (a b : BitVec 32) : rr (a ^^^ b) = rr a ^^^ rr b := by
  unfold rr
  rw [BitVec.getLsbD_xor, BitVec.ushiftRight_xor_distrib]
  cases ha : a.getLsbD 0 <;> cases hb : b.getLsbD 0 <;> simp
  · ac_rfl
  · ac_rfl
  · generalize a >>> 1 = x
    generalize b >>> 1 = y
    rw [show x ^^^ 3988292384#32 ^^^ (y ^^^ 3988292384#32) = (x ^^^ y) ^^^ (3988292384#32 ^^^ 3988292384#32) by ac_rfl]
    simp
theorem itr_xor (d : Nat) : ∀ a b : BitVec 32, it rr d (a ^^^ b) = it rr d a ^^^ it rr d b := by
  induction d with
  | zero => intro a b; rfl
  | succ d ih => intro a b; rw [it_succ, it_succ, it_succ, rr_xor, ih]
theorem sp_xor (a b : BitVec 32) (c d : BitVec 8) : sp (a ^^^ b) (c ^^^ d) = sp a c ^^^ sp b d := by
  unfold sp
  rw [← itr_xor]
  congr 1
  rw [BitVec.setWidth_xor]
  ac_rfl
theorem rr_z : rr 0 = 0 := by decide
theorem itr_z (d : Nat) : it rr d 0 = 0 := by
  induction d with
  | zero => rfl
  | succ d ih => rw [it_succ, rr_z]; exact ih
-- half a byte by a table
theorem low_free (d : Nat) : ∀ n : BitVec 32, (∀ i, i < d → n.getLsbD i = false) → it rr d n = n >>> d := by
  induction d with
  | zero => intro n _; show n = _; rw [BitVec.ushiftRight_zero]
  | succ d ih =>
    intro n h
    have h0 := h 0 (by omega)
    have e : rr n = n >>> 1 := by unfold rr; rw [h0]; rfl
    rw [it_succ, e, ih]
    · rw [← BitVec.shiftRight_add]; congr 1; omega
    · intro i hi
      rw [BitVec.getLsbD_ushiftRight]
      rw [Nat.add_comm]; exact h (i + 1) (by omega)
theorem half (n : BitVec 32) : it rr 4 n = (n >>> 4) ^^^ it rr 4 (n &&& 15#32) := by
  have e : n = (n &&& ~~~ 15#32) ^^^ (n &&& 15#32) := by
    apply BitVec.eq_of_getLsbD_eq
    intro i hi
    rw [BitVec.getLsbD_xor, BitVec.getLsbD_and, BitVec.getLsbD_and, BitVec.getLsbD_not]
    cases n.getLsbD i <;> cases (15#32).getLsbD i <;> simp [hi]
  have z : ∀ i, i < 4 → (n &&& ~~~ 15#32).getLsbD i = false := by
    intro i hi
    rw [BitVec.getLsbD_and]
    have : (~~~ 15#32).getLsbD i = false := by
      obtain rfl | rfl | rfl | rfl : i = 0 ∨ i = 1 ∨ i = 2 ∨ i = 3 := by omega
      all_goals decide
    rw [this, Bool.and_false]
  conv => lhs; rw [e, itr_xor, low_free 4 _ z]
  congr 1
  apply BitVec.eq_of_getLsbD_eq
  intro i hi
  rw [BitVec.getLsbD_ushiftRight, BitVec.getLsbD_ushiftRight, BitVec.getLsbD_and]
  by_cases h : 4 + i < 32
  · have : (~~~ 15#32).getLsbD (4 + i) = true := by
      have all : ∀ j : Fin 28, (~~~ 15#32).getLsbD (4 + j.val) = true := by decide +kernel
      exact all ⟨i, by omega⟩
    rw [this, Bool.and_true]
  · rw [BitVec.getLsbD_of_ge _ _ (by omega), Bool.false_and]
-- bit by bit
def bt (b : Bool) : BitVec 32 := if b then 1#32 else 0#32
def r1 (n : BitVec 32) (b : Bool) : BitVec 32 := rr (n ^^^ bt b)
theorem bt_xor (a b : Bool) : bt (a ^^ b) = bt a ^^^ bt b := by cases a <;> cases b <;> decide
theorem r1_xor (a b : BitVec 32) (x y : Bool) : r1 (a ^^^ b) (x ^^ y) = r1 a x ^^^ r1 b y := by
  unfold r1
  rw [← rr_xor, bt_xor]
  congr 1; ac_rfl
def bits8 (c : BitVec 8) : List Bool := [c.getLsbD 0, c.getLsbD 1, c.getLsbD 2, c.getLsbD 3, c.getLsbD 4, c.getLsbD 5, c.getLsbD 6, c.getLsbD 7]
theorem byte_bits (n : BitVec 32) (c : BitVec 8) : (bits8 c).foldl r1 n = sp n c := by
  have h0 : ∀ c : BitVec 8, (bits8 c).foldl r1 0#32 = sp 0#32 c := by decide +kernel
  have lin : ∀ (l : List Bool) (a b : BitVec 32), l.foldl r1 (a ^^^ b) = it rr l.length a ^^^ l.foldl r1 b := by
    intro l
    induction l with
    | nil => intro a b; rfl
    | cons x l ih =>
      intro a b
      have : r1 (a ^^^ b) x = rr a ^^^ r1 b x := by
        have := r1_xor a b false x
        rw [Bool.false_xor] at this
        rw [this]; congr 1; unfold r1 bt; simp
      rw [List.foldl_cons, List.foldl_cons, this, ih, List.length_cons, it_succ]
  have := lin (bits8 c) n 0#32
  rw [BitVec.xor_zero] at this
  rw [this, h0]
  unfold sp
  rw [BitVec.zero_xor, show (bits8 c).length = 8 from rfl, ← itr_xor]
-- turned back
theorem rr_zero {z : BitVec 32} (h : rr z = 0) : z = 0 := by
  unfold rr at h
  by_cases c : z.getLsbD 0 = true
  · rw [if_pos c] at h
    have h2 : z >>> 1 = 0xEDB88320#32 := by
      have e : (z >>> 1 ^^^ 0xEDB88320#32) ^^^ 0xEDB88320#32 = 0 ^^^ 0xEDB88320#32 := by rw [h]
      rw [BitVec.xor_assoc, BitVec.xor_self, BitVec.xor_zero] at e
      rw [e]; decide
    have h3 := congrArg BitVec.toNat h2
    rw [BitVec.toNat_ushiftRight, Nat.shiftRight_eq_div_pow] at h3
    have : (0xEDB88320#32).toNat = 3988292384 := rfl
    have := z.isLt
    omega
  · rw [if_neg c] at h
    have h3 := congrArg BitVec.toNat h
    rw [BitVec.toNat_ushiftRight, Nat.shiftRight_eq_div_pow] at h3
    have h0 : (0 : BitVec 32).toNat = 0 := rfl
    apply BitVec.eq_of_toNat_eq
    have : z.toNat.testBit 0 = false := by simpa [BitVec.getLsbD] using c
    rw [Nat.testBit_zero] at this
    have : z.toNat % 2 ≠ 1 := by simpa using this
    omega
theorem itr_zero (d : Nat) : ∀ {z : BitVec 32}, it rr d z = 0 → z = 0 := by
  induction d with
  | zero => intro z h; exact h
  | succ d ih => intro z h; rw [it_succ] at h; exact rr_zero (ih h)
theorem fold_lin (t : List Int) : ∀ n d : BitVec 32, t.foldl spI (n ^^^ d) = t.foldl spI n ^^^ it rr (8 * t.length) d := by
  induction t with
  | nil => intro n d; rfl
  | cons c t ih =>
    intro n d
    rw [List.foldl_cons, List.foldl_cons, List.length_cons, show 8 * (t.length + 1) = 8 + 8 * t.length by omega, it_add]
    have : spI (n ^^^ d) c = spI n c ^^^ it rr 8 d := by
      have h := sp_xor n d (BitVec.ofInt 8 c) 0#8
      rw [BitVec.xor_zero] at h
      unfold spI
      rw [h]
      unfold sp
      congr 2
      rw [show BitVec.setWidth 32 0#8 = 0#32 from by decide, BitVec.xor_zero]
    rw [this, ih]
end Go.Proofs.YtnphphlincbgmaaDoor.P

-- YtnphphlincbgmaaDoorPCrcW
namespace Go.Proofs.YtnphphlincbgmaaDoor.P
open Go Go.RowKit Go.Proofs.YtnphphlincbgmaaDoorW.PrintWords Go.Proofs.YtnphphlincbgmaaDoorW.PrintLast Go.Proofs.YtnphphlincbgmaaDoorW.PrintMore
set_option linter.unusedVariables false

def tabAt (i : Nat) : Int := ((it rr 4 (BitVec.ofNat 32 i)).toNat : Int)
def tabTo (n : Nat) : List Int := (List.range 16).map fun j => if j < n then tabAt j else 0
def tabV (n : Nat) : Array Value := (nums .u32 (tabTo n)).toArray
theorem tabV_get (n j : Nat) (hj : j < 16) : (tabV n)[j]? = some (.int .u32 (if j < n then tabAt j else 0)) := by
  unfold tabV tabTo nums
  rw [List.getElem?_toArray, List.getElem?_map, List.getElem?_map, List.getElem?_range hj]; rfl
theorem tabV_set (n : Nat) (h : n < 16) : (tabV n).setIfInBounds n (.int .u32 (tabAt n)) = tabV (n + 1) := by
  apply Array.ext_getElem?
  intro j
  by_cases hj : j < 16
  · rw [Array.getElem?_setIfInBounds]
    by_cases e : n = j
    · subst e
      rw [if_pos rfl, if_pos (by show n < (nums .u32 (tabTo n)).toArray.size; simp [nums, tabTo, h]), tabV_get _ _ hj, if_pos (by omega)]
    · rw [if_neg e, tabV_get _ _ hj, tabV_get _ _ hj]
      by_cases c : j < n
      · rw [if_pos c, if_pos (by omega)]
      · rw [if_neg c, if_neg (by omega)]
  · rw [Array.getElem?_eq_none (by simp [tabV, nums, tabTo]; omega), Array.getElem?_eq_none (by simp [tabV, nums, tabTo]; omega)]
theorem tabV_size : ∀ n, (tabV n).size = 16 := by intro n; simp [tabV, nums, tabTo]
theorem tabV_one (n : Nat) : (tabV n).all (·.oneCell') = true := by
  rw [Array.all_eq_true]
  intro j hj
  simp [tabV, nums, Value.oneCell']
theorem bit0_mod (n : BitVec 32) : n.getLsbD 0 = decide (n.toNat % 2 = 1) := by
  rw [BitVec.getLsbD, Nat.testBit_zero]
theorem rr_go (n : BitVec 32) : Go.bits .xor .u32 ((n.toNat : Int) / 2) (Go.bits .and .u32 3988292384 (-Go.bits .and .u32 (n.toNat : Int) 1 % 4294967296)) = ((rr n).toNat : Int) := by
  have hn := n.isLt
  have e1 : Go.bits .and .u32 (n.toNat : Int) 1 = ((n.toNat % 2 : Nat) : Int) := by
    rw [show (1 : Int) = ((1 : Nat) : Int) from rfl, Go.u32_and_nat _ 1 (by omega) (by decide), Go.nat_mask1]
  have e2 : (n.toNat : Int) / (2 : Int) = ((n >>> 1).toNat : Int) := by rw [BitVec.toNat_ushiftRight, Nat.shiftRight_eq_div_pow]; omega
  rw [e1, e2]
  unfold rr
  by_cases c : n.toNat % 2 = 1
  · rw [bit0_mod, decide_eq_true c, if_pos rfl, c]
    have e3 : Go.bits .and .u32 3988292384 (-((1 : Nat) : Int) % 4294967296) = ((0xEDB88320#32).toNat : Int) := by decide +kernel
    rw [e3, Go.u32_xor_nat _ _ (by have := (n >>> 1).isLt; omega) (by decide), BitVec.toNat_xor]
  · rw [bit0_mod, decide_eq_false c, if_neg (by decide), show n.toNat % 2 = 0 by omega]
    have e3 : Go.bits .and .u32 3988292384 (-((0 : Nat) : Int) % 4294967296) = ((0 : Nat) : Int) := by decide +kernel
    rw [e3, Go.u32_xor_nat _ _ (by have := (n >>> 1).isLt; omega) (by decide), Nat.xor_zero]
theorem crc_table_size : (Tryd.prog.info? 84).map (·.size) = some 16 := by kernel_rfl
set_option maxRecDepth 100000 in
set_option maxHeartbeats 4000000 in
theorem crc32_build_calls (w : World) : Calls Tryd.prog 35 #[] w fun e w' => e = .returned (.agg (tabV 16)) ∧ Below w.heap.size w w' := by
  go_enter Tryd.func35, Tryd.ntmps35
  go_wp2
  have hu49 := Tryd.underlying84
  have k0 := blk_alloc (blk_new w (.cells #[.int .u32 0, .int .u32 0, .int .u32 0, .int .u32 0, .int .u32 0, .int .u32 0, .int .u32 0, .int .u32 0, .int .u32 0, .int .u32 0, .int .u32 0, .int .u32 0, .int .u32 0, .int .u32 0, .int .u32 0, .int .u32 0] 84)) (.cells #[.int .u32 0, .int .u32 0, .int .u32 0, .int .u32 0, .int .u32 0, .int .u32 0, .int .u32 0, .int .u32 0, .int .u32 0, .int .u32 0, .int .u32 0, .int .u32 0, .int .u32 0, .int .u32 0, .int .u32 0, .int .u32 0] 84)
  have k1 := blk_new (w.alloc (.cells #[.int .u32 0, .int .u32 0, .int .u32 0, .int .u32 0, .int .u32 0, .int .u32 0, .int .u32 0, .int .u32 0, .int .u32 0, .int .u32 0, .int .u32 0, .int .u32 0, .int .u32 0, .int .u32 0, .int .u32 0, .int .u32 0] 84)) (.cells #[.int .u32 0, .int .u32 0, .int .u32 0, .int .u32 0, .int .u32 0, .int .u32 0, .int .u32 0, .int .u32 0, .int .u32 0, .int .u32 0, .int .u32 0, .int .u32 0, .int .u32 0, .int .u32 0, .int .u32 0, .int .u32 0] 84)
  have hB := below_alloc (below_alloc (Below.refl w.heap.size w) (.cells #[.int .u32 0, .int .u32 0, .int .u32 0, .int .u32 0, .int .u32 0, .int .u32 0, .int .u32 0, .int .u32 0, .int .u32 0, .int .u32 0, .int .u32 0, .int .u32 0, .int .u32 0, .int .u32 0, .int .u32 0, .int .u32 0] 84)) (.cells #[.int .u32 0, .int .u32 0, .int .u32 0, .int .u32 0, .int .u32 0, .int .u32 0, .int .u32 0, .int .u32 0, .int .u32 0, .int .u32 0, .int .u32 0, .int .u32 0, .int .u32 0, .int .u32 0, .int .u32 0, .int .u32 0] 84)
  rw [World.size_alloc] at k1
  have K0 := Aside0.mk k0
  have K1 := Aside0.mk k1
  have HB := Aside0.mk hB
  clear k0 k1 hB
  go_loopw [4] (fun v4 wr => ∃ i : Nat, i ≤ 16 ∧ v4 = .int .i64 (i : Int) ∧ Aside0 (wr.heap[w.heap.size]? = some (.cells (tabV 0) 84 (0, 0))) ∧ Aside0 (wr.heap[w.heap.size + 1]? = some (.cells (tabV i) 84 (0, 0))) ∧ Aside0 (Below w.heap.size w wr)) (fun v4 _ => 16 - (intOf v4).toNat)
  case atStart => exact ⟨0, by omega, rfl, K0, K1, HB⟩
  case round =>
    clear K0 K1 HB
    obtain ⟨i, hi, rfl, K0, K1, HB⟩ := hrel
    by_cases h16 : i < 16
    · have hlt : (i : Int) < 16 := by omega
      have e32 : IntKind.u32.wrap (i : Int) = ((BitVec.ofNat 32 i).toNat : Int) := by rw [IntKind.wrap_u32, BitVec.toNat_ofNat]; omega
      go_wp2
      go_loopw [3, 9] (fun v3 v9 wr2 => ∃ q : Nat, q ≤ 4 ∧ v3 = .int .u32 ((it rr q (BitVec.ofNat 32 i)).toNat : Int) ∧ v9 = .int .i64 (q : Int) ∧ wr2 = wr) (fun _ v9 _ => 4 - (intOf v9).toNat)
      case atStart => exact ⟨0, by omega, by (show _ = Value.int IntKind.u32 ((BitVec.ofNat 32 i).toNat : Int); rw [← e32, IntKind.wrap_u32]), rfl, by first | rfl | trivial⟩
      case round =>
        obtain ⟨q, hq, rfl, rfl, rfl⟩ := hrel
        by_cases h4 : q < 4
        · have hlt4 : (q : Int) < 4 := by omega
          go_wp2
          go_roundw
          case rel =>
            refine ⟨q + 1, by omega, ?_, by simp, by first | rfl | trivial⟩
            rw [rr_go, it_last rr q]
          case measure => simp [intOf]; omega
        · obtain rfl : q = 4 := by omega
          have hx := (blk_cell K1.out i).trans (tabV_get i i h16)
          have hf := blk_frozen K1.out i
          go_wp2
          refine ⟨⟨i + 1, by omega, by simp, ⟨blk_far K0.out (by simp) _⟩, ⟨blk_put K1.out i _ (tabV_set i h16)⟩, ⟨HB.out.setCell (p := ⟨w.heap.size + 1, i, none⟩) (by simp) _⟩⟩, by simp [intOf]; omega⟩
    · obtain rfl : i = 16 := by omega
      go_wp2_with (first | (refine wpList_load_row rfl 84 (.tmp 1) rfl (w.heap.size + 1) rfl 84 (tabV 16) (0, 0) _ K1.out hu49 rfl (crc_table_size.trans (by rw [tabV_size])) ?_) | (refine wpList_store_row rfl 84 (.tmp 0) (.tmp 23) rfl w.heap.size (tabV 16) rfl rfl 84 _ K0.out (crc_table_size.trans (by rw [tabV_size])) (by rw [tabV_size, tabV_size]) (tabV_one 16) ?_))
      refine bodyPost_ret (results_cell_row rfl _ _ w.heap.size 84 (tabV 16) (0, 0) _ rfl (setRow_heap _ _ _ _ _ _ K0.out) hu49 rfl (crc_table_size.trans (by rw [tabV_size]))) rfl ?_
      exact ⟨rfl, below_setRow HB.out (Nat.le_refl _) _⟩
theorem low4 (n : BitVec 32) : n &&& 15#32 = BitVec.ofNat 32 (n.toNat % 16) := by
  apply BitVec.eq_of_toNat_eq
  rw [BitVec.toNat_and, show (15#32).toNat = 2 ^ 4 - 1 from rfl, Nat.and_two_pow_sub_one_eq_mod, BitVec.toNat_ofNat]
  omega
theorem half_go (n : BitVec 32) : Go.bits .xor .u32 ((n.toNat : Int) / 16) (tabAt (n.toNat % 16)) = ((it rr 4 n).toNat : Int) := by
  have e2 : (n.toNat : Int) / (16 : Int) = ((n >>> 4).toNat : Int) := by rw [BitVec.toNat_ushiftRight, Nat.shiftRight_eq_div_pow]; omega
  rw [e2, half n, low4]
  unfold tabAt
  rw [Go.u32_xor_nat _ _ (by have := (n >>> 4).isLt; omega) (by have := (it rr 4 (BitVec.ofNat 32 (n.toNat % 16))).isLt; omega), BitVec.toNat_xor]
theorem not_go (n : BitVec 32) : Go.bits .xor .u32 IntKind.u32.max (n.toNat : Int) = ((~~~ n).toNat : Int) := by
  rw [show IntKind.u32.max = (((BitVec.allOnes 32).toNat : Nat) : Int) from by decide +kernel, Go.u32_xor_nat _ _ (by have := (BitVec.allOnes 32).isLt; omega) (by have := n.isLt; omega), ← BitVec.toNat_xor, BitVec.allOnes_xor]
theorem byte_go (n : BitVec 32) (c : Int) (hc : 0 ≤ c ∧ c ≤ 255) : Go.bits .xor .u32 (n.toNat : Int) c = ((n ^^^ (BitVec.ofInt 8 c).setWidth 32).toNat : Int) := by
  obtain ⟨m, rfl⟩ := Int.eq_ofNat_of_zero_le hc.1
  rw [Go.u32_xor_nat _ _ (by have := n.isLt; omega) (by omega), BitVec.toNat_xor, BitVec.toNat_setWidth, BitVec.ofInt_natCast, BitVec.toNat_ofNat]
  congr 3; omega
set_option maxRecDepth 100000 in
set_option maxHeartbeats 4000000 in
theorem crc32_Sum_walk (A0 : Option Addr) (c0 : Nat) (l0 : List Int) (w : World) (hr0 : Kd.C (Kd.int .u8) w A0 l0.length l0) (hc0 : l0.length ≤ c0) (hw : ∀ x ∈ l0, 0 ≤ x ∧ x ≤ 255) (hl : l0.length ≤ 100000) :
    Calls Tryd.prog 16 #[.slice A0 l0.length c0] w fun e w' => e = .returned (.int .u32 ((sum32 l0).toNat : Int)) ∧ Below w.heap.size w w' := by
  have hu49 := Tryd.underlying84
  replace hr0 := Aside0.mk hr0
  go_enter Tryd.func16, Tryd.ntmps16
  go_wp2_with (first | (go_at_call 35; refine (crc32_build_calls _).mono ?_; rintro e w1 ⟨rfl, HB0⟩; have HB := Aside0.mk HB0; clear HB0) | ((with_reducible refine gate_dst (N := 3) rfl ?_); refine box_event ?hg (N := 3) ?hd (cs := #[.int .u32 0, .int .u32 0, .int .u32 0, .int .u32 0, .int .u32 0, .int .u32 0, .int .u32 0, .int .u32 0, .int .u32 0, .int .u32 0, .int .u32 0, .int .u32 0, .int .u32 0, .int .u32 0, .int .u32 0, .int .u32 0]) (t := 84) ?hr ?_; (case hd => rfl); (case hg => rfl); (case hr => first | (go_simp; done) | (go_simp; rfl)); intro g hge w2 hbox0 hb0; have hbox := Aside0.mk hbox0; have HB1 := Aside0.mk (below_step HB.out hb0); have hgl := Aside0.mk (show w.heap.size ≤ g by rw [hge]; exact HB.out.size); clear HB hbox0 hb0 hge) | (refine wpList_store_row rfl 84 (.tmp 3) (.tmp 7) rfl g (tabV 16) rfl rfl 84 _ hbox.out (crc_table_size.trans (by rw [tabV_size])) (by rw [tabV_size]; rfl) (tabV_one 16) ?_; have BK := Aside0.mk (setRow_heap w2 g _ (tabV 16) _ _ hbox.out); have HB2 := Aside0.mk (below_setRow HB1.out hgl.out (tabV 16)); clear hbox HB1; obtain ⟨w3, hw3⟩ : ∃ w3, w2.setRow g (tabV 16) = w3 := ⟨_, rfl⟩; rw [hw3] at BK HB2 ⊢; clear hw3))
  go_loopw [4, 10] (fun v4 v10 wr => ∃ i : Nat, i ≤ l0.length ∧ v4 = .int .u32 (((l0.take i).foldl spI 0xFFFFFFFF#32).toNat : Int) ∧ v10 = .int .i64 (i : Int) ∧ wr = w3) (fun _ v10 _ => l0.length - (intOf v10).toNat)
  case atStart => exact ⟨0, by omega, rfl, rfl, by first | rfl | trivial⟩
  case round =>
    obtain ⟨i, hi, rfl, rfl, rfl⟩ := hrel
    by_cases hlt : i < l0.length
    · have hlt' : (i : Int) < (l0.length : Int) := by omega
      obtain ⟨ad, hA, hcs⟩ := (Kd.C_below hr0.out HB2.out).2.2 (by omega)
      subst hA
      have hx : wr.cell? (ad.add i) = some (.int .u8 l0[i]) := by
        obtain ⟨c, h1, h2, h3⟩ := hcs i _ (List.getElem?_eq_getElem hlt)
        have h2' : c = [Value.int .u8 l0[i]] := h2
        subst h2'
        have h4 := h3 0 _ rfl
        simpa [Kd.int, Kd.scalar] using h4
      clear hcs
      have hc := hw l0[i] (List.getElem_mem hlt)
      have e0 : (l0.take (i + 1)).foldl spI 0xFFFFFFFF#32 = spI ((l0.take i).foldl spI 0xFFFFFFFF#32) l0[i] := by
        rw [take_snoc l0 i hlt, List.foldl_append]; rfl
      have e1 := byte_go ((l0.take i).foldl spI 0xFFFFFFFF#32) l0[i] hc
      have e3 : spI ((l0.take i).foldl spI 0xFFFFFFFF#32) l0[i] = it rr 4 (it rr 4 (((l0.take i).foldl spI 0xFFFFFFFF#32) ^^^ (BitVec.ofInt 8 l0[i]).setWidth 32)) := by
        unfold spI sp; rw [show (8 : Nat) = 4 + 4 from rfl, it_add]
      generalize (l0.take i).foldl spI 0xFFFFFFFF#32 = n at e0 e1 e3 ⊢
      generalize n ^^^ (BitVec.ofInt 8 l0[i]).setWidth 32 = m at e1 e3
      have g1 := half_go m
      obtain ⟨j, hj⟩ : ∃ j, m.toNat % 16 = j := ⟨_, rfl⟩
      have hj16 : j < 16 := by omega
      have hj' : (m.toNat : Int) % 16 = (j : Int) := by omega
      have hj0 : (0 : Int) ≤ (j : Int) := by omega
      have hj1 : (j : Int) < 16 := by omega
      have hy := (blk_cell BK.out j).trans (tabV_get 16 j hj16)
      rw [if_pos hj16] at hy
      rw [hj] at g1
      have g2 := half_go (it rr 4 m)
      generalize it rr 4 m = m2 at e3 g1 g2
      obtain ⟨j2, hj2⟩ : ∃ j, m2.toNat % 16 = j := ⟨_, rfl⟩
      have hj216 : j2 < 16 := by omega
      have hj2' : (m2.toNat : Int) % 16 = (j2 : Int) := by omega
      have hj20 : (0 : Int) ≤ (j2 : Int) := by omega
      have hj21 : (j2 : Int) < 16 := by omega
      have hy2 := (blk_cell BK.out j2).trans (tabV_get 16 j2 hj216)
      rw [if_pos hj216] at hy2
      rw [hj2] at g2
      go_wp2
      exact ⟨⟨i + 1, by omega, by rw [e0, e3], by simp, by first | rfl | trivial⟩, by simp [intOf]; omega⟩
    · obtain rfl : i = l0.length := by omega
      go_wp2
      go_ret
      refine ⟨?_, HB2.out⟩
      rw [not_go]
      unfold sum32 reg32
      simp
end Go.Proofs.YtnphphlincbgmaaDoor.P

-- YtnphphlincbgmaaDoorP50
namespace Go.Proofs.YtnphphlincbgmaaDoor.P
open Go.RowKit Go.Proofs.YtnphphlincbgmaaDoorW.PrintWords Go.Proofs.YtnphphlincbgmaaDoorW.PrintLast Go.Proofs.YtnphphlincbgmaaDoorW.PrintMore
attribute [local go_sem] max2_int min2_int max_two min_two max_three min_three max_four min_four   -- for this text's walks alone
set_option linter.unusedVariables false
set_option linter.unusedSimpArgs false

/-! ### crc32_Sum: function 16 -/
def crc32_Sum.f (l0 : List Int) : Option Int := if l0.all (fun x => decide (0 ≤ x ∧ x ≤ 255)) = true ∧ l0.length ≤ 100000 then some ((sum32 l0).toNat : Int) else none
theorem crc32_Sum.calls (A0 : Option Addr) (c0 : Nat) (l0 : List Int) (r : Int) (w : World) (hr0 : Kd.C (Kd.int .u8) w A0 l0.length l0) (hc0 : l0.length ≤ c0) (h : crc32_Sum.f l0 = some r) :
    Calls Tryd.prog 16 #[.slice A0 l0.length c0] w fun e w' => e = .returned (.int .u32 r) ∧ Below w.heap.size w w' := by
  unfold crc32_Sum.f at h
  by_cases hg : l0.all (fun x => decide (0 ≤ x ∧ x ≤ 255)) = true ∧ l0.length ≤ 100000
  · rw [if_pos hg] at h
    cases h
    exact crc32_Sum_walk A0 c0 l0 w hr0 hc0 (fun x hx => of_decide_eq_true (List.all_eq_true.1 hg.1 x hx)) hg.2
  · rw [if_neg hg] at h; cases h

end Go.Proofs.YtnphphlincbgmaaDoor.P

-- YtnphphlincbgmaaDoorP51
namespace Go.Proofs.YtnphphlincbgmaaDoor.P
open Go.RowKit Go.Proofs.YtnphphlincbgmaaDoorW.PrintWords Go.Proofs.YtnphphlincbgmaaDoorW.PrintLast Go.Proofs.YtnphphlincbgmaaDoorW.PrintMore
attribute [local go_sem] max2_int min2_int max_two min_two max_three min_three max_four min_four   -- for this text's walks alone
set_option linter.unusedVariables false
set_option linter.unusedSimpArgs false

/-! ### shuttletop_stands: function 8 -/
def shuttletop_stands.f : Option Bool := (crc32_Sum.f ([49, 50, 51, 52, 53, 54, 55, 56, 57] : List Int)).bind fun t => some (t == 3421780262)
set_option maxHeartbeats 8000000 in
set_option maxRecDepth 100000 in
theorem shuttletop_stands.calls (r : Bool) (w : World) (h : shuttletop_stands.f = some r) :
    Calls Tryd.prog 8 #[] w fun e w' => e = .returned (.bool r) ∧ Below w.heap.size w w' := by
  obtain ⟨t, A1, H⟩ := Option.bind_eq_some_iff.mp h
  have hr := Option.some.inj H
  have A := Aside0.mk A1
  have HR := Aside0.mk (const_reads w 5 .u8 [49, 50, 51, 52, 53, 54, 55, 56, 57] #[.int .u8 49, .int .u8 50, .int .u8 51, .int .u8 52, .int .u8 53, .int .u8 54, .int .u8 55, .int .u8 56, .int .u8 57] (9, 10) rfl (by decide))
  have HB := Aside0.mk (below_alloc (Below.refl w.heap.size w) (.cells #[.int .u8 49, .int .u8 50, .int .u8 51, .int .u8 52, .int .u8 53, .int .u8 54, .int .u8 55, .int .u8 56, .int .u8 57] 5 (9, 10)))
  subst hr
  clear h A1 H
  have kc := fun (w : World) (C : Array Value) (n c : Nat) => Lib.run_convert_bytes_const (P := Tryd.prog) w 35 5 C n c Tryd.underlying35 Tryd.underlying5
  go_enter Tryd.func8, Tryd.ntmps8
  go_wp2_with ((with_reducible refine gate_callee (f := 16) rfl ?_); refine goesL_ (some 3) rfl rfl Tryd.func16 (by kernel_rfl) rfl #[.slice (some ⟨w.heap.size, 0, none⟩) 9 9] rfl (by (try simp only [List.map_toArray, List.map_cons, List.map_nil]); first | done | rfl) ?_; refine (crc32_Sum.calls _ _ [49, 50, 51, 52, 53, 54, 55, 56, 57] t _ ?side1 ?side2 A.out).mono ?_; (case side1 => exact HR.out); (case side2 => exact Nat.le_refl _); rintro e w' ⟨rfl, hb⟩; refine ⟨_, rfl, ?_⟩)
  go_ret
  exact ⟨rfl, below_step HB.out hb⟩

end Go.Proofs.YtnphphlincbgmaaDoor.P

-- YtnphphlincbgmaaDoorPAkLaw
namespace Go.Proofs.YtnphphlincbgmaaDoor.P
open Go Go.RowKit Go.Proofs.YtnphphlincbgmaaDoorW.PrintWords Go.Proofs.YtnphphlincbgmaaDoorW.PrintLast Go.Proofs.YtnphphlincbgmaaDoorW.PrintMore
set_option linter.unusedVariables false
set_option linter.unusedSimpArgs false
attribute [local go_sem] run_index_arr

theorem stands_ok : shuttletop_stands.f = some true := by
  unfold shuttletop_stands.f crc32_Sum.f
  rw [if_pos (by decide), Option.bind_some]
  have : ((sum32 [49, 50, 51, 52, 53, 54, 55, 56, 57]).toNat : Int) = 3421780262 := by decide +kernel
  rw [this]; rfl
/-- The first numbers' distances. -/
def ns (l : List Int) (i : Nat) : List Nat := (l.take i).map aN
theorem ns_in (l : List Int) (i : Nat) : ∀ n ∈ ns l i, 1 ≤ n ∧ n ≤ 32 := by
  intro n hn
  simp only [ns, List.mem_map] at hn
  obtain ⟨x, _, rfl⟩ := hn
  exact aN_in x
theorem ns_len (l : List Int) (i : Nat) : (ns l i).length ≤ i := by simp [ns]; omega
theorem ns_succ (l : List Int) (i : Nat) (h : i < l.length) : ns l (i + 1) = ns l i ++ [aN l[i]] := by
  unfold ns; rw [List.take_succ_eq_append_getElem h, List.map_append]; rfl
/-- Which ones have come. -/
def hasV (ms : List Nat) : Array Value := ((List.range 33).map fun j => Value.bool (decide (j ∈ ms))).toArray
theorem hasV_get (ms : List Nat) (j : Nat) (h : j < 33) : (hasV ms)[j]? = some (.bool (decide (j ∈ ms))) := by
  unfold hasV
  rw [List.getElem?_toArray, List.getElem?_map, List.getElem?_range h]; rfl
theorem hasV_size (ms : List Nat) : (hasV ms).size = 33 := by simp [hasV]
theorem hasV_set (ms : List Nat) (n : Nat) (h : n < 33) : (hasV ms).setIfInBounds n (.bool true) = hasV (ms ++ [n]) := by
  apply Array.ext_getElem?
  intro j
  by_cases hj : j < 33
  · rw [Array.getElem?_setIfInBounds]
    by_cases e : n = j
    · subst e
      rw [if_pos rfl, if_pos (by rw [hasV_size]; exact h), hasV_get _ _ hj]
      simp
    · rw [if_neg e, hasV_get _ _ hj, hasV_get _ _ hj]
      have : (j ∈ ms ++ [n]) ↔ j ∈ ms := by simp [List.mem_append]; intro h; exact absurd h.symm e
      simp only [this]
  · rw [Array.getElem?_eq_none (by rw [Array.size_setIfInBounds, hasV_size]; omega), Array.getElem?_eq_none (by rw [hasV_size]; omega)]
theorem u16_info : (Tryd.prog.info? 27).map (fun i => (i.zero, i.size, i.bytes)) = some (some (.int .u16 0), 1, 2) := by kernel_rfl
theorem hmeas20 {i : Nat} (h : i < 20) : 20 - (intOf (Value.int IntKind.i64 ((i : Int) + 1))).toNat < 20 - (intOf (Value.int IntKind.i64 (i : Int))).toNat := by
  have q : ∀ z : Int, intOf (Value.int IntKind.i64 z) = z := fun z => rfl
  rw [q, q, show ((i : Int) + 1) = ((i + 1 : Nat) : Int) by omega, Int.toNat_natCast, Int.toNat_natCast]; omega
theorem hmeas33 {i : Nat} (h : i < 33) : 33 - (intOf (Value.int IntKind.i64 ((i : Int) + 1))).toNat < 33 - (intOf (Value.int IntKind.i64 (i : Int))).toNat := by
  have q : ∀ z : Int, intOf (Value.int IntKind.i64 z) = z := fun z => rfl
  rw [q, q, show ((i : Int) + 1) = ((i + 1 : Nat) : Int) by omega, Int.toNat_natCast, Int.toNat_natCast]; omega
def acks20a.T : Bool × List (List Nat × List Nat) := (true, [([], []), ([], []), ([1], [1]), ([0, 2], [0, 2]), ([3], [3]), ([4], [4]), ([4], [4]), ([5, 6, 4], [4, 5, 6]), ([7, 4], [4, 7]), ([4], [4]), ([4], [4]), ([9, 10, 4, 4], [4, 9, 10]), ([8, 11, 4], [4, 8, 11]), ([4, 12], [4, 12])])
def acks20a.B : List Nat := [0, 0, 2, 7, 15, 31, 31, 127, 255, 31, 31, 1567, 4095, 8191]
theorem acks20a.tab : rtab .any (opsOf Tryd.f3 20) = acks20a.T := by kernel_rfl
theorem acks20a.bits : waitsOk acks20a.T.2 acks20a.B = true := by kernel_rfl
def acks20b.T : Bool × List (List Nat × List Nat) := (true, [([], []), ([], []), ([1], [1]), ([0, 2], [0, 2]), ([3], [3]), ([4], [4]), ([4], [4]), ([5, 6, 4], [4, 5, 6]), ([7, 4], [4, 7]), ([4], [4]), ([4], [4]), ([9, 10, 4, 4], [4, 9, 10]), ([8, 11, 4], [4, 8, 11]), ([4, 12], [4, 12])])
def acks20b.B : List Nat := [0, 0, 2, 7, 15, 31, 31, 127, 255, 31, 31, 1567, 4095, 8191]
theorem acks20b.tab : rtab .any (opsOf Tryd.f3 20) = acks20b.T := by kernel_rfl
theorem acks20b.bits : waitsOk acks20b.T.2 acks20b.B = true := by kernel_rfl
set_option maxRecDepth 100000 in
set_option maxHeartbeats 8000000 in
theorem lawAcks.walk {w : World} (base : Int) (hbw : (Lit.int .u16 base).wf = true) (A0 : Option Addr) (c0 : Nat) (l0 : List Int) (hr0 : Kd.C (Kd.int .i64) w A0 l0.length l0) (hc0 : l0.length ≤ c0) (hw0 : ∀ x ∈ l0, (Lit.int .i64 x).wf = true) (_w : World) :
    Calls Tryd.prog 3 #[.int .u16 base, .slice A0 l0.length c0] w fun e w' => e = .returned (.bool true) ∧ Below w.heap.size w w' := by
  have HBW := Aside0.mk (Go.bounds_u16 hbw)
  have HR := Aside0.mk hr0
  have HM := Aside0.mk (Kd.C_max hr0)
  clear hbw hr0 hc0 hw0
  go_enter Tryd.func3, Tryd.ntmps3
  go_wp2_with fail
  have HB1 := Aside0.mk (below_alloc (Below.refl w.heap.size w) (.cells (hasV []) 25))
  have HX1 := Aside0.mk (blk_new w (.cells (hasV []) 25))
  obtain ⟨a6, ha6⟩ : ∃ a6, a6 = w.heap.size := ⟨_, rfl⟩
  have HA := Aside0.mk (show w.heap.size ≤ a6 by rw [ha6]; exact Nat.le_refl _)
  rw [← ha6] at HX1
  rw [show (w.heap.size = a6) from ha6.symm]
  go_loopw [5, 7] (fun v5 v7 wr => ∃ i : Nat, v7 = .int .i64 (i : Int) ∧ i ≤ l0.length ∧ i ≤ 20 ∧ Aside0 (Kd.R (Kd.int .u16) 27 wr w.heap.size (fun _ => True) v5 ((ns l0 i).map (pl base))) ∧ Aside0 (wr.heap[a6]? = some (.cells (hasV (ns l0 i)) 25 (0, 0))) ∧ Aside0 (Below w.heap.size w wr)) (fun _ v7 _ => 20 - (intOf v7).toNat)
  case atStart => exact ⟨0, by simp, by omega, by omega, ⟨Kd.R_nil _ _ _ _ _⟩, HX1, HB1⟩
  case round =>
    clear HX1 HB1 ha6
    obtain ⟨i, rfl, hi, hi20, HL, HX, HB⟩ := hrel
    by_cases hlt : i < l0.length
    · by_cases hlt2 : i < 20
      · have h1 : (i : Int) < (l0.length : Int) := by omega
        have h2 : (i : Int) < 20 := by omega
        have hi0 : (0 : Int) ≤ (i : Int) := by omega
        have HI := Aside0.mk (And.intro hlt hlt2)
        obtain ⟨x, hx⟩ : ∃ x, x = l0[i] := ⟨_, rfl⟩
        obtain ⟨n, hn⟩ : ∃ n, n = aN x := ⟨_, rfl⟩
        have hnin := aN_in x
        have hne := aN_eq x
        rw [← hn] at hnin hne
        have HNI := Aside0.mk hnin
        have hne2 : wrap64 ((IntKind.u64.wrap x).tmod 32) = (n : Int) - 1 := by rw [← hne, IntKind.wrap_i64]; unfold wrap64; rfl
        have HN1 := Aside0.mk (show (1 : Int) + ((n : Int) - 1) = (n : Int) by omega)
        have hn2 : (0 : Int) ≤ (n : Int) := by omega
        have hn3 : (n : Int) < 33 := by omega
        have hns : ns l0 (i + 1) = ns l0 i ++ [n] := by rw [ns_succ l0 i hlt, hn, hx]
        have HNS := Aside0.mk hns
        obtain ⟨ad, rfl, hcx0⟩ := ReadsOf.at_ (Kd.reads_of_C (enc := Value.int .i64) (d := (0 : Int)) (h1 := fun _ => rfl) (Kd.C_below HR.out HB.out)) (i : Int) hi0 h1
        rw [Int.toNat_natCast] at hcx0
        have hcx : wr.cell? (ad.add i) = some (.int .i64 x) := by
          rw [hcx0, hx]
          simp [rdOf, hlt]
        clear hcx0 hx hn hnin hns hlt hlt2
        go_wp2_with (first
          | (go_at_call 4; refine Aside0.out ?_)
          | fail)
        refine Aside0.mk ?_
        rw [HN1.out]
        refine (seq_Plus.calls base (n : Int) (pl base n) wr rfl).mono ?_
        rintro e w1 ⟨rfl, hd⟩
        have HL1 := Aside0.mk (Kd.R_below HL.out hd.below)
        have HX1 := Aside0.mk ((hd.below.block a6 (blk_lt HX.out)).trans HX.out)
        have HB1 := Aside0.mk (below_step HB.out hd.below)
        clear hd hcx hne hne2 h1 h2 hi0 HL HX HB
        go_wp2_with (first
          | ((with_reducible refine gate_builtin (b := .append) (xs := #[.tmp 36, .tmp 40]) rfl ?_); at_builtin; refine Kd.R_append (Kd.int .u16) (w0 := w) w.heap.size rfl (.tmp 36) (.tmp 40) 24 27 (.int .u16 0) 2 rfl Tryd.underlying24 u16_info rfl (by decide) (by omega) u5 ((ns l0 i).map (pl base)) (pl base n) [.int .u16 (pl base n)] (fun _ => True) (fun _ => False) rfl (by first | rfl | (go_simp; done) | (go_simp; rfl)) rfl (fun _ hk => hk.elim) (fun _ _ => trivial) HL1.out HB1.out HB1.out.size (by have := ns_len l0 i; have := HI.out; rw [List.length_map]; omega) ?_; intro v41 w41 ho hb hg hat; have HL2 := Aside0.mk ho; have HB2 := Aside0.mk hb; have HX2 := Aside0.mk (blk_grown HX1.out hg (Kd.R_ne HL1.out HX1.out (by decide))); clear ho hb hg hat HL1 HB1 HX1; have hfz := blk_frozen HX2.out n; have hcn := (blk_cell HX2.out n).trans (hasV_get (ns l0 i) n (by have := HNI.out; omega)))
          | fail)
        have hS := Kd.R_set HL2.out HX2.out (fun q hq => by rcases List.mem_cons.1 hq with rfl | h; decide; cases h) n (.bool true)
        have hP := blk_put HX2.out n (.bool true) (hasV_set (ns l0 i) n (by have := HNI.out; omega))
        have hB := HB2.out.setCell (p := ⟨a6, n, none⟩) HA.out (.bool true)
        obtain ⟨w42, hw42⟩ : ∃ w42, w42 = w41.setCell ⟨a6, n, none⟩ (.bool true) := ⟨_, rfl⟩
        rw [← hw42] at hS hP hB ⊢
        rw [← HNS.out] at hP
        have hS : Kd.R (Kd.int .u16) 27 w42 w.heap.size (fun _ => True) v41 ((ns l0 (i + 1)).map (pl base)) := by rw [HNS.out, List.map_append]; exact hS
        exact ⟨⟨i + 1, by simp, HI.out.1, HI.out.2, ⟨hS⟩, ⟨hP⟩, ⟨hB⟩⟩, hmeas20 HI.out.2⟩
      · have h1 : (i : Int) < (l0.length : Int) := by omega
        have h2 : ¬ (i : Int) < 20 := by omega
        clear hlt hlt2
        as_aux_lemma =>
          obtain ⟨ms, hms⟩ : ∃ ms, ms = ns l0 i := ⟨_, rfl⟩
          have HMI := Aside0.mk (show ∀ n ∈ ms, 1 ≤ n ∧ n ≤ 32 by rw [hms]; exact ns_in l0 i)
          have HMN := Aside0.mk (show ms.length ≤ 20 by rw [hms]; have := ns_len l0 i; omega)
          rw [← hms] at HL HX
          obtain ⟨Y, hY⟩ : ∃ Y : Int, Y = ((ors ms : Nat) : Int) := ⟨_, rfl⟩
          have HYI := Aside0.mk (show 0 ≤ Y ∧ Y ≤ 4294967295 by have := ors_lt ms HMI.out; omega)
          have hof := of_f HBW.out ms HMI.out HMN.out
          have hmi := missing_f HBW.out ms HMI.out
          rw [← hY] at hof hmi
          obtain ⟨L, hL⟩ : ∃ L, L = ms.map (pl base) := ⟨_, rfl⟩
          rw [← hL] at hof HL
          clear hL
          have HOF := Aside0.mk hof
          have HMF := Aside0.mk hmi
          obtain ⟨bs, B, xs, htr⟩ := trip base Y HBW.out HYI.out
          have HTR := Aside0.mk htr
          obtain ⟨A5, c5, rfl⟩ := Kd.R_slice HL.out
          have HOC := Aside0.mk (ackmap_Of.calls 100 base A5 c5 L base Y 0 wr (Kd.R_reads' HL.out).2.2 (Kd.R_reads' HL.out).2.1 HOF.out)
          clear hms hY hof hmi htr HL hi20 hi
          go_wp2_with (first
            | (go_at_call 5; refine Aside0.out ?_)
            | fail)
          refine Aside0.mk ?_
          refine HOC.out.mono ?_
          rintro e w1 ⟨rfl, hb⟩
          have HX1 := Aside0.mk ((hb.block a6 (blk_lt HX.out)).trans HX.out)
          have HB1 := Aside0.mk (below_step HB.out hb)
          clear hb HOC HX HB
          go_wp2_with (first
            | (go_at_call 6; refine Aside0.out ?_)
            | fail)
          refine Aside0.mk ?_
          have hba := below_alloc (Below.refl w1.heap.size w1) (.cells #[.int .u16 base, .int .u32 Y] 31)
          have hbb := blk_new w1 (.cells #[.int .u16 base, .int .u32 Y] 31)
          obtain ⟨w2, hw2⟩ : ∃ w2, w2 = w1.alloc (.cells #[.int .u16 base, .int .u32 Y] 31) := ⟨_, rfl⟩
          obtain ⟨a9, ha9⟩ : ∃ a9, a9 = w1.heap.size := ⟨_, rfl⟩
          rw [← hw2] at hba hbb
          rw [← ha9] at hbb
          rw [← hw2, ← ha9]
          have HX2 := Aside0.mk ((hba.block a6 (blk_lt HX1.out)).trans HX1.out)
          have HB2 := Aside0.mk (below_step HB1.out hba)
          have HZ2 := Aside0.mk hbb
          clear hba hbb hw2 ha9 HX1 HB1
          refine (write_calls base Y HBW.out HYI.out bs B 2000 HTR.out.bytes HTR.out.seal_ w2).mono ?_
          rintro e w3 ⟨v11, rfl, hv, hb⟩
          obtain ⟨A11, c11, rfl⟩ := Kd.R_slice hv
          have hrc := read_calls (Kd.R_reads' hv).2.2 (Kd.R_reads' hv).2.1 HTR.out.len 2000 HTR.out.of HTR.out.right base Y HBW.out HYI.out HTR.out.e0 HTR.out.n0 HTR.out.e1 HTR.out.n1 HTR.out.e2 HTR.out.n2 HTR.out.e3 HTR.out.n3
          rw [HTR.out.len]
          have HRC := Aside0.mk hrc
          have HX3 := Aside0.mk ((hb.block a6 (blk_lt HX2.out)).trans HX2.out)
          have HZ3 := Aside0.mk ((hb.block a9 (blk_lt HZ2.out)).trans HZ2.out)
          have HB3 := Aside0.mk (below_step HB2.out hb)
          clear hv hrc hb HX2 HZ2 HB2
          go_wp2_with (first
            | (go_at_call 7; refine Aside0.out ?_)
            | fail)
          refine Aside0.mk ?_
          refine HRC.out.mono ?_
          rintro e w4 ⟨rfl, hb⟩
          have HX4 := Aside0.mk ((hb.block a6 (blk_lt HX3.out)).trans HX3.out)
          have HZ4 := Aside0.mk ((hb.block a9 (blk_lt HZ3.out)).trans HZ3.out)
          have HB4 := Aside0.mk (below_step HB3.out hb)
          clear hb HRC HX3 HZ3 HB3
          go_wp2_with (first
            | (refine wpList_store_row rfl 39 (.tmp 13) (.tmp 59) rfl w4.heap.size (frm 2 base Y) rfl rfl 39 _ (blk_new w4 _) frm_size rfl (frm_one 2 base Y) ?_; refine Aside0.out ?_)
            | fail)
          refine Aside0.mk ?_
          have hba := below_alloc (Below.refl w4.heap.size w4) (.cells #[.int .i64 0, .int .u16 0, .int .i64 0, .int .i64 0, .slice none 0 0, .int .u16 0, .int .u32 0] 39)
          have hbb := setRow_heap (w4.alloc (.cells #[.int .i64 0, .int .u16 0, .int .i64 0, .int .i64 0, .slice none 0 0, .int .u16 0, .int .u32 0] 39)) w4.heap.size _ (frm 2 base Y) _ _ (blk_new w4 (.cells #[.int .i64 0, .int .u16 0, .int .i64 0, .int .i64 0, .slice none 0 0, .int .u16 0, .int .u32 0] 39))
          have hbs := below_setRow hba (Nat.le_refl _) (frm 2 base Y)
          obtain ⟨a13, ha13⟩ : ∃ a13, a13 = w4.heap.size := ⟨_, rfl⟩
          obtain ⟨w5, hw5⟩ : ∃ w5, w5 = (w4.alloc (.cells #[.int .i64 0, .int .u16 0, .int .i64 0, .int .i64 0, .slice none 0 0, .int .u16 0, .int .u32 0] 39)).setRow w4.heap.size (frm 2 base Y) := ⟨_, rfl⟩
          rw [← hw5] at hbs hbb ⊢
          have HX5 := Aside0.mk ((hbs.block a6 (blk_lt HX4.out)).trans HX4.out)
          have HZ5 := Aside0.mk ((hbs.block a9 (blk_lt HZ4.out)).trans HZ4.out)
          have HB5 := Aside0.mk (below_step HB4.out hbs)
          rw [← ha13] at hbb ⊢
          have HF5 := Aside0.mk hbb
          clear hba hbb hbs hw5 ha13 HX4 HZ4 HB4
          have HST := Aside0.mk (shuttletop_stands.calls true w5 stands_ok)
          go_wp2_with (first
            | (go_at_call 8; refine Aside0.out ?_)
            | fail)
          refine Aside0.mk ?_
          refine HST.out.mono ?_
          rintro e w6 ⟨rfl, hb⟩
          have HX6 := Aside0.mk ((hb.block a6 (blk_lt HX5.out)).trans HX5.out)
          have HZ6 := Aside0.mk ((hb.block a9 (blk_lt HZ5.out)).trans HZ5.out)
          have HF6 := Aside0.mk ((hb.block a13 (blk_lt HF5.out)).trans HF5.out)
          have HB6 := Aside0.mk (below_step HB5.out hb)
          clear hb HST HX5 HZ5 HF5 HB5
          have hz0 := blk_cell HZ6.out 0
          have hz1 := blk_cell HZ6.out 1
          have hf5 : w6.cell? ⟨a13, 5, none⟩ = some (.int .u16 base) := blk_cell HF6.out 5
          have hf6 : w6.cell? ⟨a13, 6, none⟩ = some (.int .u32 Y) := blk_cell HF6.out 6
          go_wp2_with (first
            | (go_at_call 9; refine Aside0.out ?_)
            | fail)
          refine Aside0.mk ?_
          refine (ackmap_Missing.calls 100 base Y base 33 (ml base ms 33) w6 HMF.out).mono ?_
          rintro e w7 ⟨v15, rfl, hv, hb⟩
          obtain ⟨A15, c15, rfl⟩ := Kd.R_slice hv
          have hcc := (Kd.R_reads' hv).2.2
          obtain ⟨R, hR⟩ : ∃ R, R = ml base ms 33 := ⟨_, rfl⟩
          rw [← hR] at hcc ⊢
          have HRD := Aside0.mk hR
          have HRM := Aside0.mk (show R.length ≤ 33 by rw [hR]; exact ml_le base ms 33)
          have HC7 := Aside0.mk hcc
          have HX7 := Aside0.mk ((hb.block a6 (blk_lt HX6.out)).trans HX6.out)
          have HB7 := Aside0.mk (below_step HB6.out hb)
          clear hv hb hcc hR HX6 HZ6 HF6 HB6 hz0 hz1 hf5 hf6
          go_wp2_with fail
          go_loopw [16, 17] (fun v16 v17 wq => ∃ n k : Nat, v16 = .int .i64 (k : Int) ∧ v17 = .int .i64 (n : Int) ∧ n ≤ 33 ∧ Aside0 (k = (ml base ms n).length) ∧ Aside0 (Kd.C (Kd.int .u16) wq A15 R.length R) ∧ Aside0 (wq.heap[a6]? = some (.cells (hasV ms) 25 (0, 0))) ∧ Aside0 (Below w.heap.size w wq)) (fun _ v17 _ => 33 - (intOf v17).toNat)
          case atStart => exact ⟨0, 0, by simp, by simp, by omega, ⟨rfl⟩, HC7, HX7, HB7⟩
          case round =>
            clear HC7 HX7 HB7
            obtain ⟨n, k, rfl, rfl, hn, HK, HC, HX, HB⟩ := hrel
            by_cases hlt : n < 33
            · have hn32 : (n : Int) ≤ 32 := by omega
              have hn33 : (n : Int) < 33 := by omega
              have hn0 : (0 : Int) ≤ (n : Int) := by omega
              have hcn := (blk_cell HX.out n).trans (hasV_get ms n hlt)
              have HLT := Aside0.mk hlt
              by_cases c : n ∈ ms
              · rw [decide_eq_true c] at hcn
                have HK2 := Aside0.mk (show k = (ml base ms (n + 1)).length by
                  have e : ml base ms (n + 1) = ml base ms n := by show (if n ∈ ms then _ else _) = _; rw [if_pos c]
                  rw [e]; exact HK.out)
                clear c hlt hn HK
                go_wp2_with fail
                exact ⟨⟨n + 1, k, rfl, by simp, HLT.out, HK2, HC, HX, HB⟩, hmeas33 HLT.out⟩
              · rw [decide_eq_false c] at hcn
                have hat := ml_at base ms n c 33 (by omega)
                rw [← HRD.out, ← HK.out] at hat
                have HK2 := Aside0.mk (show k + 1 = (ml base ms (n + 1)).length by
                  have e : ml base ms (n + 1) = ml base ms n ++ [pl base n] := by show (if n ∈ ms then _ else _) = _; rw [if_neg c]
                  rw [e, List.length_append, ← HK.out]; rfl)
                obtain ⟨p, hp⟩ : ∃ p, p = pl base n := ⟨_, rfl⟩
                have HP := Aside0.mk hp
                have hk0 : (0 : Int) ≤ (k : Int) := by omega
                have hkl : (k : Int) < (R.length : Int) := by omega
                have hk33 : (k : Int) < 33 := by have := HRM.out; omega
                have hkg : decide ((k : Int) ≥ (R.length : Int)) = false := decide_eq_false (by omega)
                have hka : decide ((R.length : Int) ≤ (k : Int)) = false := decide_eq_false (by omega)
                have hkb : decide (R.length ≤ k) = false := decide_eq_false (by omega)
                obtain ⟨ad, rfl, hcx0⟩ := ReadsOf.at_ (Kd.reads_of_C (enc := Value.int .u16) (d := (0 : Int)) (h1 := fun _ => rfl) HC.out) (k : Int) hk0 hkl
                rw [Int.toNat_natCast] at hcx0
                have HS := Aside0.mk (show wr.drew.cell? (ad.add k) = some (.int .u16 p) by
                  have e : rdOf 0 R (k : Int) = p := by rw [hp, ← hat.2]; rfl
                  rw [e] at hcx0; exact hcx0)
                have hd6 : Below wr.heap.size wr wr.drew := below_drew1 (Below.refl _ _)
                have HC2 := Aside0.mk (Kd.C_below HC.out hd6)
                have HX2 := Aside0.mk ((hd6.block a6 (blk_lt HX.out)).trans HX.out)
                have HB2 := Aside0.mk (below_step HB.out hd6)
                have HK3 := Aside0.mk (show k + 1 ≤ 33 by have := HRM.out; omega)
                clear c hlt hn HK hat hp hcx0 hd6 HC HX HB
                go_wp2_with fail
                refine start_ (n := 14) (S := (fun w' => w'.cell? (ad.add k) = some (.int .u16 p))) (ds := []) #[false, false, false, false, false, false, false, false, false, false, false, false, false, false] (by kernel_rfl) rfl rfl HS.out (fun hHeld => ?_)
                refine with_tabW acks20a.tab acks20a.bits (fun HT_ HW_ => ?_)
                refine pure_ (i := 0) (N := some 92) (v := ?_) (a' := ?_) #[true, false, false, false, false, false, false, false, false, false, false, false, false, false] rfl rfl (any_of HT_.out (by kernel_rfl)) (fun _ _ _ h => h) (Or.inl ⟨by rfl, ?_⟩) ?_ ?_
                rotate_left
                · intro w'
                  go_simp
                  with_reducible rfl
                rotate_left
                · simp only [Act.put, List.setIfInBounds_toArray, List.set_cons_zero, List.set_cons_succ, i64_w, i32_w]
                  rfl
                refine pure_ (i := 1) (N := some 93) (v := ?_) (a' := ?_) #[true, true, false, false, false, false, false, false, false, false, false, false, false, false] rfl rfl (any_of HT_.out (by kernel_rfl)) (fun _ _ _ h => h) (Or.inl ⟨by rfl, ?_⟩) ?_ ?_
                rotate_left
                · intro w'
                  go_simp
                  with_reducible rfl
                rotate_left
                · simp only [Act.put, List.setIfInBounds_toArray, List.set_cons_zero, List.set_cons_succ, i64_w, i32_w]
                  rfl
                refine pure_ (i := 2) (N := some 94) (v := ?_) (a' := ?_) #[true, true, true, false, false, false, false, false, false, false, false, false, false, false] rfl rfl (any_of HT_.out (by kernel_rfl)) (fun _ _ _ h => h) (Or.inl ⟨by rfl, ?_⟩) ?_ ?_
                rotate_left
                · intro w'
                  go_simp
                  with_reducible rfl
                rotate_left
                · simp only [Act.put, List.setIfInBounds_toArray, List.set_cons_zero, List.set_cons_succ, i64_w, i32_w]
                  rfl
                refine pure_ (i := 3) (N := some 95) (v := ?_) (a' := ?_) #[true, true, true, true, false, false, false, false, false, false, false, false, false, false] rfl rfl (any_of HT_.out (by kernel_rfl)) (fun _ _ _ h => h) (Or.inl ⟨by rfl, ?_⟩) ?_ ?_
                rotate_left
                · intro w'
                  go_simp
                  with_reducible rfl
                rotate_left
                · simp only [Act.put, List.setIfInBounds_toArray, List.set_cons_zero, List.set_cons_succ, i64_w, i32_w]
                  rfl
                refine pure_ (i := 4) (N := some 96) (v := ?_) (a' := ?_) #[true, true, true, true, true, false, false, false, false, false, false, false, false, false] rfl rfl (any_of HT_.out (by kernel_rfl)) (fun _ _ _ h => h) (Or.inl ⟨by rfl, ?_⟩) ?_ ?_
                rotate_left
                · intro w'
                  go_simp
                  with_reducible rfl
                rotate_left
                · simp only [Act.put, List.setIfInBounds_toArray, List.set_cons_zero, List.set_cons_succ, i64_w, i32_w]
                  rfl
                refine pure_ (i := 5) (N := some 97) (v := ?_) (a' := ?_) #[true, true, true, true, true, true, false, false, false, false, false, false, false, false] rfl rfl (any_of HT_.out (by kernel_rfl)) (fun _ _ _ h => h) (Or.inl ⟨by rfl, ?_⟩) ?_ ?_
                rotate_left
                · intro w'
                  go_simp
                  with_reducible rfl
                rotate_left
                · simp only [Act.put, List.setIfInBounds_toArray, List.set_cons_zero, List.set_cons_succ, i64_w, i32_w]
                  rfl
                refine pure_ (i := 6) (N := some 98) (v := ?_) (a' := ?_) #[true, true, true, true, true, true, true, false, false, false, false, false, false, false] rfl rfl (any_of HT_.out (by kernel_rfl)) (fun _ _ _ h => h) (Or.inl ⟨by rfl, ?_⟩) ?_ ?_
                rotate_left
                · intro w'
                  go_simp
                  with_reducible rfl
                rotate_left
                · simp only [Act.put, List.setIfInBounds_toArray, List.set_cons_zero, List.set_cons_succ, i64_w, i32_w]
                  rfl
                refine pure_ (i := 7) (N := some 99) (v := ?_) (a' := ?_) #[true, true, true, true, true, true, true, true, false, false, false, false, false, false] rfl rfl (any_of HT_.out (by kernel_rfl)) (fun _ _ _ h => h) (Or.inl ⟨by rfl, ?_⟩) ?_ ?_
                rotate_left
                · intro w'
                  go_simp
                  with_reducible rfl
                rotate_left
                · simp only [Act.put, List.setIfInBounds_toArray, List.set_cons_zero, List.set_cons_succ, i64_w, i32_w]
                  rfl
                refine take_ (i := 8) (N := some 100) (v := ?_) (a' := ?_) #[true, true, true, true, true, true, true, true, true, false, false, false, false, false] rfl rfl (take_ofW HT_.out HW_.out (by kernel_rfl)) (fun _ _ _ h => h) (Or.inl ⟨by rfl, ?_⟩) hHeld ?_ ?_
                rotate_left
                · rintro w' s0
                  go_simp
                  with_reducible rfl
                rotate_left
                · simp only [Act.put, List.setIfInBounds_toArray, List.set_cons_zero, List.set_cons_succ, i64_w, i32_w]
                  rfl
                refine pure_ (i := 9) (N := some 101) (v := ?_) (a' := ?_) #[true, true, true, true, true, true, true, true, true, true, false, false, false, false] rfl rfl (any_of HT_.out (by kernel_rfl)) (fun _ _ _ h => h) (Or.inl ⟨by rfl, ?_⟩) ?_ ?_
                rotate_left
                · intro w'
                  go_simp
                  with_reducible rfl
                rotate_left
                · simp only [Act.put, List.setIfInBounds_toArray, List.set_cons_zero, List.set_cons_succ, i64_w, i32_w]
                  rfl
                refine pure_ (i := 10) (N := some 102) (v := ?_) (a' := ?_) #[true, true, true, true, true, true, true, true, true, true, true, false, false, false] rfl rfl (any_of HT_.out (by kernel_rfl)) (fun _ _ _ h => h) (Or.inl ⟨by rfl, ?_⟩) ?_ ?_
                rotate_left
                · intro w'
                  go_simp
                  with_reducible rfl
                rotate_left
                · simp only [Act.put, List.setIfInBounds_toArray, List.set_cons_zero, List.set_cons_succ, i64_w, i32_w]
                  rfl
                refine one_ (i := 11) (N := some 103) #[true, true, true, true, true, true, true, true, true, true, true, true, false, false] rfl rfl (one_of HT_.out (by kernel_rfl)) (by decide) (fun K hK => ?_)
                refine goes_ Tryd.func4 (by kernel_rfl) rfl _ (by rfl) rfl rfl (by (try simp only [List.map_toArray, List.map_cons, List.map_nil]); first | done | rfl | (go_simp; done) | simp [Act.eval]) ?_
                refine (seq_Plus.calls base (n : Int) p _ (by rw [HP.out]; rfl)).mono ?_
                rintro e w8 ⟨rfl, hd⟩
                have HC3 := Aside0.mk (Kd.C_below HC2.out hd.below)
                have HX3 := Aside0.mk ((hd.below.block a6 (blk_lt HX2.out)).trans HX2.out)
                have HB3 := Aside0.mk (below_step HB2.out hd.below)
                refine ⟨_, rfl, ?_⟩
                refine hK.out _ _ (by obtain ⟨nd, rfl⟩ := hd; exact HS.out) (fun hHeld => ?_)
                clear hK K
                refine norm_ (a' := ?_) ?_ ?_
                rotate_left
                · show Act.put _ (some 103) _ = _
                  simp only [Act.put, List.setIfInBounds_toArray, List.set_cons_zero, List.set_cons_succ, i64_w, i32_w]
                  rfl
                refine pure_ (i := 12) (N := some 104) (v := ?_) (a' := ?_) #[true, true, true, true, true, true, true, true, true, true, true, true, true, false] rfl rfl (any_of HT_.out (by kernel_rfl)) (fun _ _ _ h => h) (Or.inl ⟨by rfl, ?_⟩) ?_ ?_
                rotate_left
                · intro w'
                  go_simp
                  with_reducible rfl
                rotate_left
                · simp only [Act.put, List.setIfInBounds_toArray, List.set_cons_zero, List.set_cons_succ, i64_w, i32_w]
                  rfl
                refine pure_ (i := 13) (N := some 105) (v := ?_) (a' := ?_) #[true, true, true, true, true, true, true, true, true, true, true, true, true, true] rfl rfl (any_of HT_.out (by kernel_rfl)) (fun _ _ _ h => h) (Or.inl ⟨by rfl, ?_⟩) ?_ ?_
                rotate_left
                · intro w'
                  go_simp
                  with_reducible rfl
                rotate_left
                · simp only [Act.put, List.setIfInBounds_toArray, List.set_cons_zero, List.set_cons_succ, i64_w, i32_w]
                  rfl
                refine done_ (done_of HT_.out (by kernel_rfl)) ?_
                clear hHeld
                go_wp2_with fail
                exact ⟨⟨n + 1, k + 1, by simp, by simp, HLT.out, HK2, HC3, HX3, HB3⟩, hmeas33 HLT.out⟩
            · obtain rfl : n = 33 := by omega
              have hkR : k = R.length := by rw [HRD.out]; exact HK.out
              subst hkR
              clear hlt hn HK
              go_wp2_with fail
              have hrs : (Tryd.f3).results = #[.tmp 4] := by kernel_rfl
              refine bodyPost_ret (results_tmp hrs _ _ _) rfl ?_
              exact ⟨by simp, HB.out⟩
    · have h1 : ¬ (i : Int) < (l0.length : Int) := by omega
      clear hlt
      as_aux_lemma =>
        obtain ⟨ms, hms⟩ : ∃ ms, ms = ns l0 i := ⟨_, rfl⟩
        have HMI := Aside0.mk (show ∀ n ∈ ms, 1 ≤ n ∧ n ≤ 32 by rw [hms]; exact ns_in l0 i)
        have HMN := Aside0.mk (show ms.length ≤ 20 by rw [hms]; have := ns_len l0 i; omega)
        rw [← hms] at HL HX
        obtain ⟨Y, hY⟩ : ∃ Y : Int, Y = ((ors ms : Nat) : Int) := ⟨_, rfl⟩
        have HYI := Aside0.mk (show 0 ≤ Y ∧ Y ≤ 4294967295 by have := ors_lt ms HMI.out; omega)
        have hof := of_f HBW.out ms HMI.out HMN.out
        have hmi := missing_f HBW.out ms HMI.out
        rw [← hY] at hof hmi
        obtain ⟨L, hL⟩ : ∃ L, L = ms.map (pl base) := ⟨_, rfl⟩
        rw [← hL] at hof HL
        clear hL
        have HOF := Aside0.mk hof
        have HMF := Aside0.mk hmi
        obtain ⟨bs, B, xs, htr⟩ := trip base Y HBW.out HYI.out
        have HTR := Aside0.mk htr
        obtain ⟨A5, c5, rfl⟩ := Kd.R_slice HL.out
        have HOC := Aside0.mk (ackmap_Of.calls 100 base A5 c5 L base Y 0 wr (Kd.R_reads' HL.out).2.2 (Kd.R_reads' HL.out).2.1 HOF.out)
        clear hms hY hof hmi htr HL hi20 hi
        go_wp2_with (first
          | (go_at_call 5; refine Aside0.out ?_)
          | fail)
        refine Aside0.mk ?_
        refine HOC.out.mono ?_
        rintro e w1 ⟨rfl, hb⟩
        have HX1 := Aside0.mk ((hb.block a6 (blk_lt HX.out)).trans HX.out)
        have HB1 := Aside0.mk (below_step HB.out hb)
        clear hb HOC HX HB
        go_wp2_with (first
          | (go_at_call 6; refine Aside0.out ?_)
          | fail)
        refine Aside0.mk ?_
        have hba := below_alloc (Below.refl w1.heap.size w1) (.cells #[.int .u16 base, .int .u32 Y] 31)
        have hbb := blk_new w1 (.cells #[.int .u16 base, .int .u32 Y] 31)
        obtain ⟨w2, hw2⟩ : ∃ w2, w2 = w1.alloc (.cells #[.int .u16 base, .int .u32 Y] 31) := ⟨_, rfl⟩
        obtain ⟨a9, ha9⟩ : ∃ a9, a9 = w1.heap.size := ⟨_, rfl⟩
        rw [← hw2] at hba hbb
        rw [← ha9] at hbb
        rw [← hw2, ← ha9]
        have HX2 := Aside0.mk ((hba.block a6 (blk_lt HX1.out)).trans HX1.out)
        have HB2 := Aside0.mk (below_step HB1.out hba)
        have HZ2 := Aside0.mk hbb
        clear hba hbb hw2 ha9 HX1 HB1
        refine (write_calls base Y HBW.out HYI.out bs B 2000 HTR.out.bytes HTR.out.seal_ w2).mono ?_
        rintro e w3 ⟨v11, rfl, hv, hb⟩
        obtain ⟨A11, c11, rfl⟩ := Kd.R_slice hv
        have hrc := read_calls (Kd.R_reads' hv).2.2 (Kd.R_reads' hv).2.1 HTR.out.len 2000 HTR.out.of HTR.out.right base Y HBW.out HYI.out HTR.out.e0 HTR.out.n0 HTR.out.e1 HTR.out.n1 HTR.out.e2 HTR.out.n2 HTR.out.e3 HTR.out.n3
        rw [HTR.out.len]
        have HRC := Aside0.mk hrc
        have HX3 := Aside0.mk ((hb.block a6 (blk_lt HX2.out)).trans HX2.out)
        have HZ3 := Aside0.mk ((hb.block a9 (blk_lt HZ2.out)).trans HZ2.out)
        have HB3 := Aside0.mk (below_step HB2.out hb)
        clear hv hrc hb HX2 HZ2 HB2
        go_wp2_with (first
          | (go_at_call 7; refine Aside0.out ?_)
          | fail)
        refine Aside0.mk ?_
        refine HRC.out.mono ?_
        rintro e w4 ⟨rfl, hb⟩
        have HX4 := Aside0.mk ((hb.block a6 (blk_lt HX3.out)).trans HX3.out)
        have HZ4 := Aside0.mk ((hb.block a9 (blk_lt HZ3.out)).trans HZ3.out)
        have HB4 := Aside0.mk (below_step HB3.out hb)
        clear hb HRC HX3 HZ3 HB3
        go_wp2_with (first
          | (refine wpList_store_row rfl 39 (.tmp 13) (.tmp 59) rfl w4.heap.size (frm 2 base Y) rfl rfl 39 _ (blk_new w4 _) frm_size rfl (frm_one 2 base Y) ?_; refine Aside0.out ?_)
          | fail)
        refine Aside0.mk ?_
        have hba := below_alloc (Below.refl w4.heap.size w4) (.cells #[.int .i64 0, .int .u16 0, .int .i64 0, .int .i64 0, .slice none 0 0, .int .u16 0, .int .u32 0] 39)
        have hbb := setRow_heap (w4.alloc (.cells #[.int .i64 0, .int .u16 0, .int .i64 0, .int .i64 0, .slice none 0 0, .int .u16 0, .int .u32 0] 39)) w4.heap.size _ (frm 2 base Y) _ _ (blk_new w4 (.cells #[.int .i64 0, .int .u16 0, .int .i64 0, .int .i64 0, .slice none 0 0, .int .u16 0, .int .u32 0] 39))
        have hbs := below_setRow hba (Nat.le_refl _) (frm 2 base Y)
        obtain ⟨a13, ha13⟩ : ∃ a13, a13 = w4.heap.size := ⟨_, rfl⟩
        obtain ⟨w5, hw5⟩ : ∃ w5, w5 = (w4.alloc (.cells #[.int .i64 0, .int .u16 0, .int .i64 0, .int .i64 0, .slice none 0 0, .int .u16 0, .int .u32 0] 39)).setRow w4.heap.size (frm 2 base Y) := ⟨_, rfl⟩
        rw [← hw5] at hbs hbb ⊢
        have HX5 := Aside0.mk ((hbs.block a6 (blk_lt HX4.out)).trans HX4.out)
        have HZ5 := Aside0.mk ((hbs.block a9 (blk_lt HZ4.out)).trans HZ4.out)
        have HB5 := Aside0.mk (below_step HB4.out hbs)
        rw [← ha13] at hbb ⊢
        have HF5 := Aside0.mk hbb
        clear hba hbb hbs hw5 ha13 HX4 HZ4 HB4
        have HST := Aside0.mk (shuttletop_stands.calls true w5 stands_ok)
        go_wp2_with (first
          | (go_at_call 8; refine Aside0.out ?_)
          | fail)
        refine Aside0.mk ?_
        refine HST.out.mono ?_
        rintro e w6 ⟨rfl, hb⟩
        have HX6 := Aside0.mk ((hb.block a6 (blk_lt HX5.out)).trans HX5.out)
        have HZ6 := Aside0.mk ((hb.block a9 (blk_lt HZ5.out)).trans HZ5.out)
        have HF6 := Aside0.mk ((hb.block a13 (blk_lt HF5.out)).trans HF5.out)
        have HB6 := Aside0.mk (below_step HB5.out hb)
        clear hb HST HX5 HZ5 HF5 HB5
        have hz0 := blk_cell HZ6.out 0
        have hz1 := blk_cell HZ6.out 1
        have hf5 : w6.cell? ⟨a13, 5, none⟩ = some (.int .u16 base) := blk_cell HF6.out 5
        have hf6 : w6.cell? ⟨a13, 6, none⟩ = some (.int .u32 Y) := blk_cell HF6.out 6
        go_wp2_with (first
          | (go_at_call 9; refine Aside0.out ?_)
          | fail)
        refine Aside0.mk ?_
        refine (ackmap_Missing.calls 100 base Y base 33 (ml base ms 33) w6 HMF.out).mono ?_
        rintro e w7 ⟨v15, rfl, hv, hb⟩
        obtain ⟨A15, c15, rfl⟩ := Kd.R_slice hv
        have hcc := (Kd.R_reads' hv).2.2
        obtain ⟨R, hR⟩ : ∃ R, R = ml base ms 33 := ⟨_, rfl⟩
        rw [← hR] at hcc ⊢
        have HRD := Aside0.mk hR
        have HRM := Aside0.mk (show R.length ≤ 33 by rw [hR]; exact ml_le base ms 33)
        have HC7 := Aside0.mk hcc
        have HX7 := Aside0.mk ((hb.block a6 (blk_lt HX6.out)).trans HX6.out)
        have HB7 := Aside0.mk (below_step HB6.out hb)
        clear hv hb hcc hR HX6 HZ6 HF6 HB6 hz0 hz1 hf5 hf6
        go_wp2_with fail
        go_loopw [16, 17] (fun v16 v17 wq => ∃ n k : Nat, v16 = .int .i64 (k : Int) ∧ v17 = .int .i64 (n : Int) ∧ n ≤ 33 ∧ Aside0 (k = (ml base ms n).length) ∧ Aside0 (Kd.C (Kd.int .u16) wq A15 R.length R) ∧ Aside0 (wq.heap[a6]? = some (.cells (hasV ms) 25 (0, 0))) ∧ Aside0 (Below w.heap.size w wq)) (fun _ v17 _ => 33 - (intOf v17).toNat)
        case atStart => exact ⟨0, 0, by simp, by simp, by omega, ⟨rfl⟩, HC7, HX7, HB7⟩
        case round =>
          clear HC7 HX7 HB7
          obtain ⟨n, k, rfl, rfl, hn, HK, HC, HX, HB⟩ := hrel
          by_cases hlt : n < 33
          · have hn32 : (n : Int) ≤ 32 := by omega
            have hn33 : (n : Int) < 33 := by omega
            have hn0 : (0 : Int) ≤ (n : Int) := by omega
            have hcn := (blk_cell HX.out n).trans (hasV_get ms n hlt)
            have HLT := Aside0.mk hlt
            by_cases c : n ∈ ms
            · rw [decide_eq_true c] at hcn
              have HK2 := Aside0.mk (show k = (ml base ms (n + 1)).length by
                have e : ml base ms (n + 1) = ml base ms n := by show (if n ∈ ms then _ else _) = _; rw [if_pos c]
                rw [e]; exact HK.out)
              clear c hlt hn HK
              go_wp2_with fail
              exact ⟨⟨n + 1, k, rfl, by simp, HLT.out, HK2, HC, HX, HB⟩, hmeas33 HLT.out⟩
            · rw [decide_eq_false c] at hcn
              have hat := ml_at base ms n c 33 (by omega)
              rw [← HRD.out, ← HK.out] at hat
              have HK2 := Aside0.mk (show k + 1 = (ml base ms (n + 1)).length by
                have e : ml base ms (n + 1) = ml base ms n ++ [pl base n] := by show (if n ∈ ms then _ else _) = _; rw [if_neg c]
                rw [e, List.length_append, ← HK.out]; rfl)
              obtain ⟨p, hp⟩ : ∃ p, p = pl base n := ⟨_, rfl⟩
              have HP := Aside0.mk hp
              have hk0 : (0 : Int) ≤ (k : Int) := by omega
              have hkl : (k : Int) < (R.length : Int) := by omega
              have hk33 : (k : Int) < 33 := by have := HRM.out; omega
              have hkg : decide ((k : Int) ≥ (R.length : Int)) = false := decide_eq_false (by omega)
              have hka : decide ((R.length : Int) ≤ (k : Int)) = false := decide_eq_false (by omega)
              have hkb : decide (R.length ≤ k) = false := decide_eq_false (by omega)
              obtain ⟨ad, rfl, hcx0⟩ := ReadsOf.at_ (Kd.reads_of_C (enc := Value.int .u16) (d := (0 : Int)) (h1 := fun _ => rfl) HC.out) (k : Int) hk0 hkl
              rw [Int.toNat_natCast] at hcx0
              have HS := Aside0.mk (show wr.drew.cell? (ad.add k) = some (.int .u16 p) by
                have e : rdOf 0 R (k : Int) = p := by rw [hp, ← hat.2]; rfl
                rw [e] at hcx0; exact hcx0)
              have hd6 : Below wr.heap.size wr wr.drew := below_drew1 (Below.refl _ _)
              have HC2 := Aside0.mk (Kd.C_below HC.out hd6)
              have HX2 := Aside0.mk ((hd6.block a6 (blk_lt HX.out)).trans HX.out)
              have HB2 := Aside0.mk (below_step HB.out hd6)
              have HK3 := Aside0.mk (show k + 1 ≤ 33 by have := HRM.out; omega)
              clear c hlt hn HK hat hp hcx0 hd6 HC HX HB
              go_wp2_with fail
              refine start_ (n := 14) (S := (fun w' => w'.cell? (ad.add k) = some (.int .u16 p))) (ds := []) #[false, false, false, false, false, false, false, false, false, false, false, false, false, false] (by kernel_rfl) rfl rfl HS.out (fun hHeld => ?_)
              refine with_tabW acks20b.tab acks20b.bits (fun HT_ HW_ => ?_)
              refine pure_ (i := 0) (N := some 92) (v := ?_) (a' := ?_) #[true, false, false, false, false, false, false, false, false, false, false, false, false, false] rfl rfl (any_of HT_.out (by kernel_rfl)) (fun _ _ _ h => h) (Or.inl ⟨by rfl, ?_⟩) ?_ ?_
              rotate_left
              · intro w'
                go_simp
                with_reducible rfl
              rotate_left
              · simp only [Act.put, List.setIfInBounds_toArray, List.set_cons_zero, List.set_cons_succ, i64_w, i32_w]
                rfl
              refine pure_ (i := 1) (N := some 93) (v := ?_) (a' := ?_) #[true, true, false, false, false, false, false, false, false, false, false, false, false, false] rfl rfl (any_of HT_.out (by kernel_rfl)) (fun _ _ _ h => h) (Or.inl ⟨by rfl, ?_⟩) ?_ ?_
              rotate_left
              · intro w'
                go_simp
                with_reducible rfl
              rotate_left
              · simp only [Act.put, List.setIfInBounds_toArray, List.set_cons_zero, List.set_cons_succ, i64_w, i32_w]
                rfl
              refine pure_ (i := 2) (N := some 94) (v := ?_) (a' := ?_) #[true, true, true, false, false, false, false, false, false, false, false, false, false, false] rfl rfl (any_of HT_.out (by kernel_rfl)) (fun _ _ _ h => h) (Or.inl ⟨by rfl, ?_⟩) ?_ ?_
              rotate_left
              · intro w'
                go_simp
                with_reducible rfl
              rotate_left
              · simp only [Act.put, List.setIfInBounds_toArray, List.set_cons_zero, List.set_cons_succ, i64_w, i32_w]
                rfl
              refine pure_ (i := 3) (N := some 95) (v := ?_) (a' := ?_) #[true, true, true, true, false, false, false, false, false, false, false, false, false, false] rfl rfl (any_of HT_.out (by kernel_rfl)) (fun _ _ _ h => h) (Or.inl ⟨by rfl, ?_⟩) ?_ ?_
              rotate_left
              · intro w'
                go_simp
                with_reducible rfl
              rotate_left
              · simp only [Act.put, List.setIfInBounds_toArray, List.set_cons_zero, List.set_cons_succ, i64_w, i32_w]
                rfl
              refine pure_ (i := 4) (N := some 96) (v := ?_) (a' := ?_) #[true, true, true, true, true, false, false, false, false, false, false, false, false, false] rfl rfl (any_of HT_.out (by kernel_rfl)) (fun _ _ _ h => h) (Or.inl ⟨by rfl, ?_⟩) ?_ ?_
              rotate_left
              · intro w'
                go_simp
                with_reducible rfl
              rotate_left
              · simp only [Act.put, List.setIfInBounds_toArray, List.set_cons_zero, List.set_cons_succ, i64_w, i32_w]
                rfl
              refine pure_ (i := 5) (N := some 97) (v := ?_) (a' := ?_) #[true, true, true, true, true, true, false, false, false, false, false, false, false, false] rfl rfl (any_of HT_.out (by kernel_rfl)) (fun _ _ _ h => h) (Or.inl ⟨by rfl, ?_⟩) ?_ ?_
              rotate_left
              · intro w'
                go_simp
                with_reducible rfl
              rotate_left
              · simp only [Act.put, List.setIfInBounds_toArray, List.set_cons_zero, List.set_cons_succ, i64_w, i32_w]
                rfl
              refine pure_ (i := 6) (N := some 98) (v := ?_) (a' := ?_) #[true, true, true, true, true, true, true, false, false, false, false, false, false, false] rfl rfl (any_of HT_.out (by kernel_rfl)) (fun _ _ _ h => h) (Or.inl ⟨by rfl, ?_⟩) ?_ ?_
              rotate_left
              · intro w'
                go_simp
                with_reducible rfl
              rotate_left
              · simp only [Act.put, List.setIfInBounds_toArray, List.set_cons_zero, List.set_cons_succ, i64_w, i32_w]
                rfl
              refine pure_ (i := 7) (N := some 99) (v := ?_) (a' := ?_) #[true, true, true, true, true, true, true, true, false, false, false, false, false, false] rfl rfl (any_of HT_.out (by kernel_rfl)) (fun _ _ _ h => h) (Or.inl ⟨by rfl, ?_⟩) ?_ ?_
              rotate_left
              · intro w'
                go_simp
                with_reducible rfl
              rotate_left
              · simp only [Act.put, List.setIfInBounds_toArray, List.set_cons_zero, List.set_cons_succ, i64_w, i32_w]
                rfl
              refine take_ (i := 8) (N := some 100) (v := ?_) (a' := ?_) #[true, true, true, true, true, true, true, true, true, false, false, false, false, false] rfl rfl (take_ofW HT_.out HW_.out (by kernel_rfl)) (fun _ _ _ h => h) (Or.inl ⟨by rfl, ?_⟩) hHeld ?_ ?_
              rotate_left
              · rintro w' s0
                go_simp
                with_reducible rfl
              rotate_left
              · simp only [Act.put, List.setIfInBounds_toArray, List.set_cons_zero, List.set_cons_succ, i64_w, i32_w]
                rfl
              refine pure_ (i := 9) (N := some 101) (v := ?_) (a' := ?_) #[true, true, true, true, true, true, true, true, true, true, false, false, false, false] rfl rfl (any_of HT_.out (by kernel_rfl)) (fun _ _ _ h => h) (Or.inl ⟨by rfl, ?_⟩) ?_ ?_
              rotate_left
              · intro w'
                go_simp
                with_reducible rfl
              rotate_left
              · simp only [Act.put, List.setIfInBounds_toArray, List.set_cons_zero, List.set_cons_succ, i64_w, i32_w]
                rfl
              refine pure_ (i := 10) (N := some 102) (v := ?_) (a' := ?_) #[true, true, true, true, true, true, true, true, true, true, true, false, false, false] rfl rfl (any_of HT_.out (by kernel_rfl)) (fun _ _ _ h => h) (Or.inl ⟨by rfl, ?_⟩) ?_ ?_
              rotate_left
              · intro w'
                go_simp
                with_reducible rfl
              rotate_left
              · simp only [Act.put, List.setIfInBounds_toArray, List.set_cons_zero, List.set_cons_succ, i64_w, i32_w]
                rfl
              refine one_ (i := 11) (N := some 103) #[true, true, true, true, true, true, true, true, true, true, true, true, false, false] rfl rfl (one_of HT_.out (by kernel_rfl)) (by decide) (fun K hK => ?_)
              refine goes_ Tryd.func4 (by kernel_rfl) rfl _ (by rfl) rfl rfl (by (try simp only [List.map_toArray, List.map_cons, List.map_nil]); first | done | rfl | (go_simp; done) | simp [Act.eval]) ?_
              refine (seq_Plus.calls base (n : Int) p _ (by rw [HP.out]; rfl)).mono ?_
              rintro e w8 ⟨rfl, hd⟩
              have HC3 := Aside0.mk (Kd.C_below HC2.out hd.below)
              have HX3 := Aside0.mk ((hd.below.block a6 (blk_lt HX2.out)).trans HX2.out)
              have HB3 := Aside0.mk (below_step HB2.out hd.below)
              refine ⟨_, rfl, ?_⟩
              refine hK.out _ _ (by obtain ⟨nd, rfl⟩ := hd; exact HS.out) (fun hHeld => ?_)
              clear hK K
              refine norm_ (a' := ?_) ?_ ?_
              rotate_left
              · show Act.put _ (some 103) _ = _
                simp only [Act.put, List.setIfInBounds_toArray, List.set_cons_zero, List.set_cons_succ, i64_w, i32_w]
                rfl
              refine pure_ (i := 12) (N := some 104) (v := ?_) (a' := ?_) #[true, true, true, true, true, true, true, true, true, true, true, true, true, false] rfl rfl (any_of HT_.out (by kernel_rfl)) (fun _ _ _ h => h) (Or.inl ⟨by rfl, ?_⟩) ?_ ?_
              rotate_left
              · intro w'
                go_simp
                with_reducible rfl
              rotate_left
              · simp only [Act.put, List.setIfInBounds_toArray, List.set_cons_zero, List.set_cons_succ, i64_w, i32_w]
                rfl
              refine pure_ (i := 13) (N := some 105) (v := ?_) (a' := ?_) #[true, true, true, true, true, true, true, true, true, true, true, true, true, true] rfl rfl (any_of HT_.out (by kernel_rfl)) (fun _ _ _ h => h) (Or.inl ⟨by rfl, ?_⟩) ?_ ?_
              rotate_left
              · intro w'
                go_simp
                with_reducible rfl
              rotate_left
              · simp only [Act.put, List.setIfInBounds_toArray, List.set_cons_zero, List.set_cons_succ, i64_w, i32_w]
                rfl
              refine done_ (done_of HT_.out (by kernel_rfl)) ?_
              clear hHeld
              go_wp2_with fail
              exact ⟨⟨n + 1, k + 1, by simp, by simp, HLT.out, HK2, HC3, HX3, HB3⟩, hmeas33 HLT.out⟩
          · obtain rfl : n = 33 := by omega
            have hkR : k = R.length := by rw [HRD.out]; exact HK.out
            subst hkR
            clear hlt hn HK
            go_wp2_with fail
            have hrs : (Tryd.f3).results = #[.tmp 4] := by kernel_rfl
            refine bodyPost_ret (results_tmp hrs _ _ _) rfl ?_
            exact ⟨by simp, HB.out⟩
end Go.Proofs.YtnphphlincbgmaaDoor.P

-- YtnphphlincbgmaaDoorPArrRow
namespace Go.Proofs.YtnphphlincbgmaaDoor.P
open Go Go.WideMaps Go.ChangeShapes Go.WideShapes
section
variable {H : Type} {enc : TypeId × Value → H} {P : Program} {k e : TypeId} {q : IntKind} {W : World} {base : Nat} {sp : Nat → Bool} {held : Bool}
theorem arr_cells {n : Nat} (A : ArrKey P k e n) {r : Reach} {b0 : Nat} {v : Value} (h : Value.okWide P W r b0 k v) : ∃ l : List Value, v = .agg l.toArray ∧ l.length = n := by
  simp only [Value.okWide, A.hu] at h
  obtain ⟨cs, rfl, h2, _⟩ := h
  rw [A.size] at h2
  exact ⟨cs.toList, by simp, by simpa using h2⟩
theorem open_arr3 (A : ArrKey P k e 3) (he : P.underlying e = some (.int q)) {r : Reach} {b0 : Nat} {v : Value} {d : DataW H} {ps : List MemPlace} (hval : Value.okWide P W r b0 k v) (hd : DataW.Trod enc P W base sp held k v d ps) :
    ∃ a b c : Int, v = .agg #[.int q a, .int q b, .int q c] ∧ d = .agg [.lit (.int q a), .lit (.int q b), .lit (.int q c)] ∧ ps = [] ∧ (Lit.int q a).wf = true ∧ (Lit.int q b).wf = true ∧ (Lit.int q c).wf = true := by
  obtain ⟨l, rfl, hl⟩ := arr_cells A hval
  match l, hl with
  | [c0, c1, c2], _ =>
    obtain ⟨fuel, hf⟩ := hd
    cases fuel with
    | zero => simp [DataW.trod] at hf
    | succ n =>
      rw [DataW.trod_step] at hf
      unfold DataW.trodStep at hf
      simp only [A.hu, Value.cells] at hf
      rw [if_pos (by rw [A.size]; rfl)] at hf
      simp only [Option.map_eq_some_iff] at hf
      obtain ⟨xs, hx, e1⟩ := hf
      rw [show List.range 3 = [0, 1, 2] from rfl, List.mapM_cons, List.mapM_cons, List.mapM_cons, List.mapM_nil] at hx
      simp only [bind, Option.bind_eq_some_iff, pure, Option.some.injEq, A.one] at hx
      obtain ⟨y0, h0, _, ⟨y1, h1, _, ⟨y2, h2, _, rfl, rfl⟩, rfl⟩, rfl⟩ := hx
      obtain ⟨a, ea, rfl, wa⟩ := DataW.trod_int he h0
      obtain ⟨b, eb, rfl, wb⟩ := DataW.trod_int he h1
      obtain ⟨c, ec, rfl, wc⟩ := DataW.trod_int he h2
      simp at ea eb ec
      subst ea; subst eb; subst ec
      simp only [Prod.mk.injEq] at e1
      exact ⟨a, b, c, rfl, by rw [← e1.1]; rfl, by rw [← e1.2]; rfl, wa, wb, wc⟩
theorem open_arr4 (A : ArrKey P k e 4) (he : P.underlying e = some (.int q)) {r : Reach} {b0 : Nat} {v : Value} {d : DataW H} {ps : List MemPlace} (hval : Value.okWide P W r b0 k v) (hd : DataW.Trod enc P W base sp held k v d ps) :
    ∃ a b c f : Int, v = .agg #[.int q a, .int q b, .int q c, .int q f] ∧ d = .agg [.lit (.int q a), .lit (.int q b), .lit (.int q c), .lit (.int q f)] ∧ ps = [] ∧ (Lit.int q a).wf = true ∧ (Lit.int q b).wf = true ∧ (Lit.int q c).wf = true ∧ (Lit.int q f).wf = true := by
  obtain ⟨l, rfl, hl⟩ := arr_cells A hval
  match l, hl with
  | [c0, c1, c2, c3], _ =>
    obtain ⟨fuel, hf⟩ := hd
    cases fuel with
    | zero => simp [DataW.trod] at hf
    | succ n =>
      rw [DataW.trod_step] at hf
      unfold DataW.trodStep at hf
      simp only [A.hu, Value.cells] at hf
      rw [if_pos (by rw [A.size]; rfl)] at hf
      simp only [Option.map_eq_some_iff] at hf
      obtain ⟨xs, hx, e1⟩ := hf
      rw [show List.range 4 = [0, 1, 2, 3] from rfl, List.mapM_cons, List.mapM_cons, List.mapM_cons, List.mapM_cons, List.mapM_nil] at hx
      simp only [bind, Option.bind_eq_some_iff, pure, Option.some.injEq, A.one] at hx
      obtain ⟨y0, h0, _, ⟨y1, h1, _, ⟨y2, h2, _, ⟨y3, h3, _, rfl, rfl⟩, rfl⟩, rfl⟩, rfl⟩ := hx
      obtain ⟨a, ea, rfl, wa⟩ := DataW.trod_int he h0
      obtain ⟨b, eb, rfl, wb⟩ := DataW.trod_int he h1
      obtain ⟨c, ec, rfl, wc⟩ := DataW.trod_int he h2
      obtain ⟨f, ef, rfl, wf⟩ := DataW.trod_int he h3
      simp at ea eb ec ef
      subst ea; subst eb; subst ec; subst ef
      simp only [Prod.mk.injEq] at e1
      exact ⟨a, b, c, f, rfl, by rw [← e1.1]; rfl, by rw [← e1.2]; rfl, wa, wb, wc, wf⟩
theorem shut_arr3 (A : ArrKey P k e 3) (he : P.underlying e = some (.int q)) {a b c : Int} (wa : (Lit.int q a).wf = true) (wb : (Lit.int q b).wf = true) (wc : (Lit.int q c).wf = true) :
    DataW.Trod enc P W base sp held k (.agg #[.int q a, .int q b, .int q c]) (.agg [.lit (.int q a), .lit (.int q b), .lit (.int q c)]) [] :=
  ⟨2, by
    show DataW.trod enc P W base sp held (1 + 1) k [.int q a, .int q b, .int q c] = _
    rw [DataW.trod_step]
    unfold DataW.trodStep
    simp only [A.hu]
    rw [if_pos (by rw [A.size]; rfl), show List.range 3 = [0, 1, 2] from rfl, List.mapM_cons, List.mapM_cons, List.mapM_cons, List.mapM_nil]
    simp [A.one, DataW.trod, he, wa, wb, wc]⟩
theorem shut_arr4 (A : ArrKey P k e 4) (he : P.underlying e = some (.int q)) {a b c f : Int} (wa : (Lit.int q a).wf = true) (wb : (Lit.int q b).wf = true) (wc : (Lit.int q c).wf = true) (wf : (Lit.int q f).wf = true) :
    DataW.Trod enc P W base sp held k (.agg #[.int q a, .int q b, .int q c, .int q f]) (.agg [.lit (.int q a), .lit (.int q b), .lit (.int q c), .lit (.int q f)]) [] :=
  ⟨2, by
    show DataW.trod enc P W base sp held (1 + 1) k [.int q a, .int q b, .int q c, .int q f] = _
    rw [DataW.trod_step]
    unfold DataW.trodStep
    simp only [A.hu]
    rw [if_pos (by rw [A.size]; rfl), show List.range 4 = [0, 1, 2, 3] from rfl, List.mapM_cons, List.mapM_cons, List.mapM_cons, List.mapM_cons, List.mapM_nil]
    simp [A.one, DataW.trod, he, wa, wb, wc, wf]⟩
end
end Go.Proofs.YtnphphlincbgmaaDoor.P
