/- Texts of this seat, one behind the other (merge.py): the walks of the functions that the law ShuttleMends uses, and plain words on what they come to. No condition. -/
import Derived.Test.YteileaajmnbmpaaDoorWTab
import Derived.Test.YteileaajmnbmpaaDoorWKept
import Derived.Test.YteileaajmnbmpaaDoorWAt
import Derived.RangeFuncBox
import Derived.Deep.DrawnRows
import Derived.Test.YteileaajmnbmpaaDoorXMShuttleMends2
namespace Go.Proofs.YteileaajmnbmpaaDoor.P
open Go.RowKit Go.Proofs.YteileaajmnbmpaaDoorW.PrintWords Go.Proofs.YteileaajmnbmpaaDoorW.PrintLast Go.Proofs.YteileaajmnbmpaaDoorW.PrintMore
-- YteileaajmnbmpaaDoorP16
section
attribute [local go_sem] max2_int min2_int max_two min_two max_three min_three max_four min_four
set_option linter.unusedVariables false
set_option linter.unusedSimpArgs false

/-! ### version_Split: function 7 -/
def version_Split.l0 : Nat → List Int → Int → Int → List Int → List Int → List Int → List Int → Option (List Int × List Int × List Int × List Int × Int)
  | 0, _, _, _, _, _, _, _ => none
  | k + 1, x20, x21, x22, x144000, x144001, x144002, x144003 => if x22 < x21 then (if 0 ≤ x22 then (if x22 < (x20.length : Int) then ((pattern_Version.f (Int.tmod x22 4) (wrap64 (Int.tdiv x22 4))).bind fun bt145 => (if bt145.2 = 0 then (if bt145.1 = 0 then (if x144000.length < 140737488355328 then (version_Split.l0 k x20 x21 (wrap64 (x22 + 1)) (x144000 ++ [rd x20 x22]) x144001 x144002 x144003) else (none)) else (if bt145.1 = 1 then (if x144001.length < 140737488355328 then (version_Split.l0 k x20 x21 (wrap64 (x22 + 1)) x144000 (x144001 ++ [rd x20 x22]) x144002 x144003) else (none)) else (if bt145.1 = 2 then (if x144002.length < 140737488355328 then (version_Split.l0 k x20 x21 (wrap64 (x22 + 1)) x144000 x144001 (x144002 ++ [rd x20 x22]) x144003) else (none)) else (if bt145.1 = 3 then (if x144003.length < 140737488355328 then (version_Split.l0 k x20 x21 (wrap64 (x22 + 1)) x144000 x144001 x144002 (x144003 ++ [rd x20 x22])) else (none)) else (none))))) else (some (([] : List Int), ([] : List Int), ([] : List Int), ([] : List Int), bt145.2)))) else (none)) else (none)) else (some (x144000, x144001, x144002, x144003, 0))
def version_Split.f (k : Nat) (l0 : List Int) : Option (List Int × List Int × List Int × List Int × Int) := (bits_Right.f k l0).bind fun t142 => (if t142 = true then (if ((l0.length : Int) % 4) = 0 then (version_Split.l0 k l0 (l0.length : Int) 0 ([] : List Int) ([] : List Int) ([] : List Int) ([] : List Int)) else (some (([] : List Int), ([] : List Int), ([] : List Int), ([] : List Int), 1))) else (some (([] : List Int), ([] : List Int), ([] : List Int), ([] : List Int), 5)))
theorem version_Split.mono_l : ∀ k, (∀ y0 y1 y2 y3 y4 y5 y6, LeO (version_Split.l0 k y0 y1 y2 y3 y4 y5 y6) (version_Split.l0 (k + 1) y0 y1 y2 y3 y4 y5 y6))
  | 0 => fun _ _ _ _ _ _ _ r h => by simp [version_Split.l0] at h
  | k + 1 => by
    have ih0 := version_Split.mono_l k
    · intro y0 y1 y2 y3 y4 y5 y6
      unfold version_Split.l0
      repeat' first
      | (with_reducible exact ih0 _ _ _ _ _ _ _)
      | (with_reducible exact bits_Right.mono _ _)
      | (with_reducible exact LeO.refl _)
      | (with_reducible exact LeO.none _)
      | (with_reducible refine LeO.ite ?_ ?_)
      | (with_reducible refine LeO.bind ?_ (fun _ => ?_))
      | exact ih0 _ _ _ _ _ _ _
      | exact bits_Right.mono _ _
      | exact LeO.none _
      | refine LeO.ite ?_ ?_
      | refine LeO.bind ?_ (fun _ => ?_)
theorem version_Split.mono : ∀ a0 k, LeO (version_Split.f k a0) (version_Split.f (k + 1) a0) := by
  intro a0 k
  have ih0 := version_Split.mono_l k
  unfold version_Split.f
  repeat' first
      | (with_reducible exact ih0 _ _ _ _ _ _ _)
      | (with_reducible exact bits_Right.mono _ _)
      | (with_reducible exact LeO.refl _)
      | (with_reducible exact LeO.none _)
      | (with_reducible refine LeO.ite ?_ ?_)
      | (with_reducible refine LeO.bind ?_ (fun _ => ?_))
      | exact ih0 _ _ _ _ _ _ _
      | exact bits_Right.mono _ _
      | exact LeO.none _
      | refine LeO.ite ?_ ?_
      | refine LeO.bind ?_ (fun _ => ?_)
set_option maxHeartbeats 8000000 in
set_option maxRecDepth 100000 in
theorem version_Split.calls (k : Nat) (A0 : Option Addr) (c0 : Nat) (l0 : List Int) (r1 : List Int) (r2 : List Int) (r3 : List Int) (r4 : List Int) (r5 : Int) (w : World) (hr0 : Kd.C (Kd.int .u8) w A0 l0.length l0) (hc0 : l0.length ≤ c0) (h : version_Split.f k l0 = some (r1, r2, r3, r4, r5)) :
    Calls Tryd.prog 7 #[.slice A0 l0.length c0] w fun e w' => ∃ v0_ v1_ v2_ v3_ : Value, e = .returned (.tuple #[.agg #[v0_, v1_, v2_, v3_], .int .i64 r5]) ∧ Kd.R (Kd.int .u8) 5 w' w.heap.size (fun k_ => some k_ ≠ (v1_ : Value).ownBlock ∧ some k_ ≠ (v2_ : Value).ownBlock ∧ some k_ ≠ (v3_ : Value).ownBlock) v0_ r1 ∧ Kd.R (Kd.int .u8) 5 w' w.heap.size (fun k_ => some k_ ≠ (v0_ : Value).ownBlock ∧ some k_ ≠ (v2_ : Value).ownBlock ∧ some k_ ≠ (v3_ : Value).ownBlock) v1_ r2 ∧ Kd.R (Kd.int .u8) 5 w' w.heap.size (fun k_ => some k_ ≠ (v0_ : Value).ownBlock ∧ some k_ ≠ (v1_ : Value).ownBlock ∧ some k_ ≠ (v3_ : Value).ownBlock) v2_ r3 ∧ Kd.R (Kd.int .u8) 5 w' w.heap.size (fun k_ => some k_ ≠ (v0_ : Value).ownBlock ∧ some k_ ≠ (v1_ : Value).ownBlock ∧ some k_ ≠ (v2_ : Value).ownBlock) v3_ r4 ∧ Below w.heap.size w w' := by
  have hu29 := Tryd.underlying29
  have HR0 := Aside0.mk hr0
  have HC0 := Aside0.mk hc0
  clear hr0 hc0
  have HB := Aside0.mk (Below.refl w.heap.size w)
  have H : ((bits_Right.f k l0).bind fun t142 => (if t142 = true then (if ((l0.length : Int) % 4) = 0 then (version_Split.l0 k l0 (l0.length : Int) 0 ([] : List Int) ([] : List Int) ([] : List Int) ([] : List Int)) else (some (([] : List Int), ([] : List Int), ([] : List Int), ([] : List Int), 1))) else (some (([] : List Int), ([] : List Int), ([] : List Int), ([] : List Int), 5)))) = some (r1, r2, r3, r4, r5) := h
  clear h
  replace H := Option.bind_eq_some_iff.mp H
  obtain ⟨t142, A20, H⟩ := H
  replace H : (if t142 = true then (if ((l0.length : Int) % 4) = 0 then (version_Split.l0 k l0 (l0.length : Int) 0 ([] : List Int) ([] : List Int) ([] : List Int) ([] : List Int)) else (some (([] : List Int), ([] : List Int), ([] : List Int), ([] : List Int), 1))) else (some (([] : List Int), ([] : List Int), ([] : List Int), ([] : List Int), 5))) = some (r1, r2, r3, r4, r5) := H
  have A2 := Aside0.mk A20
  clear A20
  by_cases c3 : t142 = true
  · subst c3
    have H1 : (if ((l0.length : Int) % 4) = 0 then (version_Split.l0 k l0 (l0.length : Int) 0 ([] : List Int) ([] : List Int) ([] : List Int) ([] : List Int)) else (some (([] : List Int), ([] : List Int), ([] : List Int), ([] : List Int), 1))) = some (r1, r2, r3, r4, r5) := by rw [if_pos rfl] at H; exact H
    clear H
    have H := H1
    clear H1
    by_cases c4 : ((l0.length : Int) % 4) = 0
    · rw [if_pos c4] at H
      have c4b0 : (((l0.length : Int) % 4) == 0) = true := beq_iff_eq.mpr c4
      have c4b1 : (((l0.length : Int) % 4) != 0) = false := bne_eq_false_iff_eq.mpr c4
      clear c4
      have H' := Aside0.mk H
      clear H
      go_enter Tryd.func7, Tryd.ntmps7
      go_wp2_with (first | ((with_reducible refine gate_dst (N := 2) rfl ?_); refine box_event ?hg (N := 2) ?hd (cs := #[.slice none 0 0, .slice none 0 0, .slice none 0 0, .slice none 0 0]) (t := 29) ?hr ?_; (case hd => rfl); (case hg => rfl); (case hr => first | (go_simp; done) | (go_simp; rfl)); intro gb141 hg w5 hbox hb; have n0_ := Aside0.mk (below_step (by repeat (first | (with_reducible first | exact HB.out | apply below_alloc | apply pw_below_drewN | apply below_drew1) | exact HB.out)) hb); have n1_ := Aside0.mk (hbox); have n2_ := Aside0.mk ((by rw [hg]; exact (below_size (by repeat (first | (with_reducible first | exact HB.out | apply below_alloc | apply pw_below_drewN | apply below_drew1) | exact HB.out))) : w.heap.size ≤ gb141)); have n3_ := Aside0.mk ((by rw [hg]; exact (below_size (by repeat (first | (with_reducible first | exact HB.out | apply below_alloc | apply pw_below_drewN | apply below_drew1) | exact HB.out))) : w.heap.size ≤ gb141)); clear HB; have HB := n0_; have BK141 := n1_; have GW141 := n2_; have GE141 := n3_; clear n0_ n1_ n2_ n3_; clear hb hbox hg) | ((with_reducible refine gate_callee (f := 16) rfl ?_); refine goesL_ (some 11) rfl rfl Tryd.func16 (by kernel_rfl) rfl #[.slice A0 l0.length c0] rfl (by (try simp only [List.map_toArray, List.map_cons, List.map_nil]); first | done | rfl | (simp only [List.length_drop, List.length_take]; rfl)) ?_; (with_reducible refine (bits_Right.calls k _ _ l0 true _ ?side1 ?side2 A2.out).mono ?_); (case side1 => repeat (first | exact (Kd.C_below HR0.out HB.out) | (with_reducible refine Kd.C_alloc ?_ _) | (with_reducible refine Kd.C_drewN ?_ _) | (with_reducible refine Kd.C_drew ?_))); (case side2 => exact HC0.out); rintro e w' ⟨rfl, ⟨nd, rfl⟩⟩; refine ⟨_, rfl, ?_⟩) | ((with_reducible refine gate_dst (N := 4) rfl ?_); refine box_event ?hg (N := 4) ?hd (cs := #[.slice none 0 0, .slice none 0 0, .slice none 0 0, .slice none 0 0]) (t := 29) ?hr ?_; (case hd => rfl); (case hg => rfl); (case hr => first | (go_simp; done) | (go_simp; rfl)); intro gb143 hg w6 hbox hb; have n0_ := Aside0.mk (blk_below (g := gb141) (o := .cells #[.slice none 0 0, .slice none 0 0, .slice none 0 0, .slice none 0 0] 29 (0, 0)) (by (with_reducible repeat (first | refine blk_drewN ?_ _ | refine blk_drew ?_ | refine blk_alloc ?_ _)); exact BK141.out) hb); have n1_ := Aside0.mk (below_step (by repeat (first | (with_reducible first | exact HB.out | apply below_alloc | apply pw_below_drewN | apply below_drew1 | refine below_set ?_ GE141.out) | exact HB.out)) hb); have n2_ := Aside0.mk (hbox); have n3_ := Aside0.mk ((by rw [hg]; exact (below_size (by repeat (first | (with_reducible first | exact HB.out | apply below_alloc | apply pw_below_drewN | apply below_drew1 | refine below_set ?_ GE141.out) | exact HB.out))) : w.heap.size ≤ gb143)); have n4_ := Aside0.mk ((by rw [hg]; exact (below_size (by repeat (first | (with_reducible first | exact HB.out | apply below_alloc | apply pw_below_drewN | apply below_drew1 | refine below_set ?_ GE141.out) | exact HB.out))) : w.heap.size ≤ gb143)); have n5_ := Aside0.mk ((by rw [hg]; exact Nat.ne_of_lt (blk_lt (g := gb141) (o := .cells #[.slice none 0 0, .slice none 0 0, .slice none 0 0, .slice none 0 0] 29 (0, 0)) (by (with_reducible repeat (first | refine blk_drewN ?_ _ | refine blk_drew ?_ | refine blk_alloc ?_ _)); exact BK141.out)) : gb141 ≠ gb143)); have n6_ := Aside0.mk ((by rw [hg]; exact Nat.ne_of_gt (blk_lt (g := gb141) (o := .cells #[.slice none 0 0, .slice none 0 0, .slice none 0 0, .slice none 0 0] 29 (0, 0)) (by (with_reducible repeat (first | refine blk_drewN ?_ _ | refine blk_drew ?_ | refine blk_alloc ?_ _)); exact BK141.out)) : gb143 ≠ gb141)); clear BK141; clear HB; have BK141 := n0_; have HB := n1_; have BK143 := n2_; have GW143 := n3_; have GE143 := n4_; have NB141_143 := n5_; have NB143_141 := n6_; clear n0_ n1_ n2_ n3_ n4_ n5_ n6_; clear hb hbox hg))
      go_loopg [22] k (fun kq v22 w' => ∃ (x22_1 : Int) (x144000_1 : List Int) (x144001_1 : List Int) (x144002_1 : List Int) (x144003_1 : List Int) (u144000 : Value) (u144001 : Value) (u144002 : Value) (u144003 : Value), v22 = .int .i64 x22_1 ∧ Aside0 (version_Split.l0 kq l0 (l0.length : Int) x22_1 x144000_1 x144001_1 x144002_1 x144003_1 = some (r1, r2, r3, r4, r5)) ∧ Aside0 (kq ≤ k) ∧ Aside0 (Kd.R (Kd.int .u8) 5 w' w.heap.size (fun k_ => some k_ ≠ (u144001 : Value).ownBlock ∧ some k_ ≠ (u144002 : Value).ownBlock ∧ some k_ ≠ (u144003 : Value).ownBlock) u144000 x144000_1) ∧ Aside0 (Kd.R (Kd.int .u8) 5 w' w.heap.size (fun k_ => some k_ ≠ (u144000 : Value).ownBlock ∧ some k_ ≠ (u144002 : Value).ownBlock ∧ some k_ ≠ (u144003 : Value).ownBlock) u144001 x144001_1) ∧ Aside0 (Kd.R (Kd.int .u8) 5 w' w.heap.size (fun k_ => some k_ ≠ (u144000 : Value).ownBlock ∧ some k_ ≠ (u144001 : Value).ownBlock ∧ some k_ ≠ (u144003 : Value).ownBlock) u144002 x144002_1) ∧ Aside0 (Kd.R (Kd.int .u8) 5 w' w.heap.size (fun k_ => some k_ ≠ (u144000 : Value).ownBlock ∧ some k_ ≠ (u144001 : Value).ownBlock ∧ some k_ ≠ (u144002 : Value).ownBlock) u144003 x144003_1) ∧ Aside0 (w'.heap[gb141]? = some (.cells #[(.slice none 0 0), (.slice none 0 0), (.slice none 0 0), (.slice none 0 0)] 29 (0, 0))) ∧ Aside0 (w'.heap[gb143]? = some (.cells #[u144000, u144001, u144002, u144003] 29 (0, 0))) ∧ Aside0 (Below w.heap.size w w'))
      case atStart => exact ⟨(0), (([] : List Int)), (([] : List Int)), (([] : List Int)), (([] : List Int)), (.slice none 0 0), (.slice none 0 0), (.slice none 0 0), (.slice none 0 0), (by first | rfl | (simp; done) | (simp [*]; done)), H', ⟨Nat.le_refl _⟩, ⟨by first | exact Kd.R_nil _ _ _ _ _ | exact Kd.N_nil _ _ _ _ _ | exact Kd.V_nil _ _ _ _ _ | exact Kd.Q_nil _ _ _ _ _ | exact Kd.S_nil _ _ _ _ _⟩, ⟨by first | exact Kd.R_nil _ _ _ _ _ | exact Kd.N_nil _ _ _ _ _ | exact Kd.V_nil _ _ _ _ _ | exact Kd.Q_nil _ _ _ _ _ | exact Kd.S_nil _ _ _ _ _⟩, ⟨by first | exact Kd.R_nil _ _ _ _ _ | exact Kd.N_nil _ _ _ _ _ | exact Kd.V_nil _ _ _ _ _ | exact Kd.Q_nil _ _ _ _ _ | exact Kd.S_nil _ _ _ _ _⟩, ⟨by first | exact Kd.R_nil _ _ _ _ _ | exact Kd.N_nil _ _ _ _ _ | exact Kd.V_nil _ _ _ _ _ | exact Kd.Q_nil _ _ _ _ _ | exact Kd.S_nil _ _ _ _ _⟩, ⟨by (with_reducible repeat (first | refine blk_drewN ?_ _ | refine blk_drew ?_ | refine blk_alloc ?_ _)); exact BK141.out⟩, ⟨by (with_reducible repeat (first | refine blk_drewN ?_ _ | refine blk_drew ?_ | refine blk_alloc ?_ _)); exact BK143.out⟩, ⟨by repeat (first | (with_reducible first | exact HB.out | apply below_alloc | apply pw_below_drewN | apply below_drew1 | refine below_set ?_ GE141.out | refine below_set ?_ GE143.out) | exact HB.out)⟩⟩
      case round =>
        clear H'
        try clear c1
        try clear p2
        try clear c3
        try clear c4
        try clear c4b0
        try clear c4b1
        obtain ⟨x22_1, x144000_1, x144001_1, x144002_1, x144003_1, u144000, u144001, u144002, u144003, rfl, HA, HK1, HO_144000, HO_144001, HO_144002, HO_144003, BK141, BK143, HB⟩ := hrel
        cases gk with
        | zero => exact absurd HA.out (by simp [version_Split.l0])
        | succ k1 =>
          have H := HA.out
          clear HA
          simp only [version_Split.l0] at H
          by_cases c7 : x22_1 < (l0.length : Int)
          · rw [if_pos c7] at H
            have c7b0 : decide (x22_1 < (l0.length : Int)) = true := decide_eq_true c7
            clear c7
            by_cases c8 : 0 ≤ x22_1
            · rw [if_pos c8] at H
              have c8b0 : decide (0 ≤ x22_1) = true := decide_eq_true c8
              clear c8
              by_cases c9 : x22_1 < (l0.length : Int)
              · rw [if_pos c9] at H
                have c9b0 : decide (x22_1 < (l0.length : Int)) = true := decide_eq_true c9
                clear c9
                replace H := Option.bind_eq_some_iff.mp H
                obtain ⟨⟨t145, t146⟩, A100, H⟩ := H
                replace H : (if t146 = 0 then (if t145 = 0 then (if x144000_1.length < 140737488355328 then (version_Split.l0 k1 l0 (l0.length : Int) (wrap64 (x22_1 + 1)) (x144000_1 ++ [rd l0 x22_1]) x144001_1 x144002_1 x144003_1) else (none)) else (if t145 = 1 then (if x144001_1.length < 140737488355328 then (version_Split.l0 k1 l0 (l0.length : Int) (wrap64 (x22_1 + 1)) x144000_1 (x144001_1 ++ [rd l0 x22_1]) x144002_1 x144003_1) else (none)) else (if t145 = 2 then (if x144002_1.length < 140737488355328 then (version_Split.l0 k1 l0 (l0.length : Int) (wrap64 (x22_1 + 1)) x144000_1 x144001_1 (x144002_1 ++ [rd l0 x22_1]) x144003_1) else (none)) else (if t145 = 3 then (if x144003_1.length < 140737488355328 then (version_Split.l0 k1 l0 (l0.length : Int) (wrap64 (x22_1 + 1)) x144000_1 x144001_1 x144002_1 (x144003_1 ++ [rd l0 x22_1])) else (none)) else (none))))) else (some (([] : List Int), ([] : List Int), ([] : List Int), ([] : List Int), t146))) = some (r1, r2, r3, r4, r5) := H
                have A10 := Aside0.mk A100
                clear A100
                by_cases c11 : t146 = 0
                · rw [if_pos c11] at H
                  have c11b0 : (t146 == 0) = true := beq_iff_eq.mpr c11
                  have c11b1 : (t146 != 0) = false := bne_eq_false_iff_eq.mpr c11
                  clear c11
                  by_cases c12 : t145 = 0
                  · rw [if_pos c12] at H
                    subst c12
                    by_cases c13 : x144000_1.length < 140737488355328
                    · rw [if_pos c13] at H
                      have LMc13 := Aside0.mk c13
                      clear c13
                      obtain ⟨y156, hy156⟩ : ∃ y_ : List Int, y_ = (x144000_1 ++ [rd l0 x22_1]) := ⟨_, rfl⟩
                      replace H : (version_Split.l0 k1 l0 (l0.length : Int) (wrap64 (x22_1 + 1)) y156 x144001_1 x144002_1 x144003_1) = some (r1, r2, r3, r4, r5) := by first | (rw [hy156]; with_reducible exact H) | (have H2_ := (Option.bind_some _ _).symm.trans H; rw [hy156]; with_reducible exact H2_) | (have H2_ := (Option.bind_some _ _).symm.trans H; with_reducible exact H2_) | with_reducible exact H | (rw [hy156]; exact H) | exact H
                      have Ny156 := Aside0.mk hy156
                      clear hy156
                      have H' := Aside0.mk H
                      clear H
                      have p144 : 0 ≤ (x22_1 : Int) := of_decide_eq_true (by first | (with_reducible assumption) | assumption)
                      have q144 : x22_1 < (l0.length : Int) := of_decide_eq_true (by first | (with_reducible assumption) | assumption)
                      obtain ⟨ad144, e144, hx144_0⟩ := Kd.at_int HR0.out x22_1 p144 q144
                      cases e144
                      replace hx144_0 := (HB.out.cell (World.block_lt_of_cell? w _ hx144_0)).trans hx144_0
                      replace p144 := eq_true p144
                      replace q144 := eq_true q144
                      go_wp2_with (first | ((with_reducible refine gate_callee (f := 20) rfl ?_); refine goesL_ (some 32) rfl rfl Tryd.func20 (by kernel_rfl) rfl #[.int .i64 (Int.tmod x22_1 4), .int .i64 (wrap64 (Int.tdiv x22_1 4))] rfl (by (try simp only [List.map_toArray, List.map_cons, List.map_nil]); first | done | rfl | (simp only [List.length_drop, List.length_take]; rfl)) ?_; (with_reducible refine (pattern_Version.calls (Int.tmod x22_1 4) (wrap64 (Int.tdiv x22_1 4)) 0 t146 _ A10.out).mono ?_); rintro e w' ⟨rfl, ⟨nd, rfl⟩⟩; refine ⟨_, rfl, ?_⟩; (try (rw [drewN_self wr]; generalize hq_ : World.drewN wr _ = wr; have n0_ : Aside0 (Kd.R (Kd.int .u8) 5 wr w.heap.size (fun k_ => some k_ ≠ (u144001 : Value).ownBlock ∧ some k_ ≠ (u144002 : Value).ownBlock ∧ some k_ ≠ (u144003 : Value).ownBlock) u144000 x144000_1) := ⟨by rw [← hq_]; exact (by (with_reducible repeat (first | apply Kd.R_alloc | apply Kd.R_drewN | apply Kd.R_drew)); exact HO_144000.out)⟩; have n1_ : Aside0 (Kd.R (Kd.int .u8) 5 wr w.heap.size (fun k_ => some k_ ≠ (u144000 : Value).ownBlock ∧ some k_ ≠ (u144002 : Value).ownBlock ∧ some k_ ≠ (u144003 : Value).ownBlock) u144001 x144001_1) := ⟨by rw [← hq_]; exact (by (with_reducible repeat (first | apply Kd.R_alloc | apply Kd.R_drewN | apply Kd.R_drew)); exact HO_144001.out)⟩; have n2_ : Aside0 (Kd.R (Kd.int .u8) 5 wr w.heap.size (fun k_ => some k_ ≠ (u144000 : Value).ownBlock ∧ some k_ ≠ (u144001 : Value).ownBlock ∧ some k_ ≠ (u144003 : Value).ownBlock) u144002 x144002_1) := ⟨by rw [← hq_]; exact (by (with_reducible repeat (first | apply Kd.R_alloc | apply Kd.R_drewN | apply Kd.R_drew)); exact HO_144002.out)⟩; have n3_ : Aside0 (Kd.R (Kd.int .u8) 5 wr w.heap.size (fun k_ => some k_ ≠ (u144000 : Value).ownBlock ∧ some k_ ≠ (u144001 : Value).ownBlock ∧ some k_ ≠ (u144002 : Value).ownBlock) u144003 x144003_1) := ⟨by rw [← hq_]; exact (by (with_reducible repeat (first | apply Kd.R_alloc | apply Kd.R_drewN | apply Kd.R_drew)); exact HO_144003.out)⟩; have n4_ : Aside0 (wr.heap[gb141]? = some (.cells #[.slice none 0 0, .slice none 0 0, .slice none 0 0, .slice none 0 0] 29 (0, 0))) := ⟨by rw [← hq_]; exact (by (with_reducible repeat (first | refine blk_drewN ?_ _ | refine blk_drew ?_ | refine blk_alloc ?_ _)); exact BK141.out)⟩; have n5_ : Aside0 (wr.heap[gb143]? = some (.cells #[u144000, u144001, u144002, u144003] 29 (0, 0))) := ⟨by rw [← hq_]; exact (by (with_reducible repeat (first | refine blk_drewN ?_ _ | refine blk_drew ?_ | refine blk_alloc ?_ _)); exact BK143.out)⟩; have n6_ : Aside0 (Below w.heap.size w wr) := ⟨by rw [← hq_]; exact (by repeat (first | (with_reducible first | exact HB.out | apply below_alloc | apply pw_below_drewN | apply below_drew1 | refine below_set ?_ GE141.out | refine below_set ?_ GE143.out) | exact HB.out))⟩; clear HO_144000 HO_144001 HO_144002 HO_144003 BK141 BK143 HB hq_; have HO_144000 := n0_; have HO_144001 := n1_; have HO_144002 := n2_; have HO_144003 := n3_; have BK141 := n4_; have BK143 := n5_; have HB := n6_; clear n0_ n1_ n2_ n3_ n4_ n5_ n6_)); have hnb14 := NB143_141.out; have hnc14 := NB141_143.out; have hcz15_0 : wr.cell? ⟨gb143, 0, none⟩ = some (u144000) := (blk_cell BK143.out 0).trans rfl; have hcz15_1 : wr.cell? ⟨gb143, 1, none⟩ = some (u144001) := (blk_cell BK143.out 1).trans rfl; have hcz15_2 : wr.cell? ⟨gb143, 2, none⟩ = some (u144002) := (blk_cell BK143.out 2).trans rfl; have hcz15_3 : wr.cell? ⟨gb143, 3, none⟩ = some (u144003) := (blk_cell BK143.out 3).trans rfl; have hfz15_0 := blk_frozen BK143.out 0; have hfz15_1 := blk_frozen BK143.out 1; have hfz15_2 := blk_frozen BK143.out 2; have hfz15_3 := blk_frozen BK143.out 3) | ((with_reducible refine gate_builtin (b := .append) (xs := #[.tmp 42, .tmp 44]) rfl ?_); at_builtin; refine Kd.R_append (Kd.int .u8) (w0 := w) w.heap.size rfl (.tmp 42) (.tmp 44) 22 5 (.int .u8 0) 1 rfl Tryd.underlying22 info5 rfl (by decide) (by omega) u144000 x144000_1 (rd l0 x22_1) [.int .u8 (rd l0 x22_1)] (fun k_ => some k_ ≠ (u144001 : Value).ownBlock ∧ some k_ ≠ (u144002 : Value).ownBlock ∧ some k_ ≠ (u144003 : Value).ownBlock) (fun _ => False) rfl rfl ?aP (fun _ hk => hk.elim) ?aF ?aO ?aB ?aS ?aL ?_; (case aP => exact rfl); (case aB => exact (by repeat (first | (with_reducible first | exact HB.out | apply below_alloc | apply pw_below_drewN | apply below_drew1 | refine below_set ?_ GE141.out | refine below_set ?_ GE143.out) | exact HB.out))); (case aF => exact (fun k_ hk => ⟨Kd.fresh' (Kd.R_lt (by (with_reducible repeat (first | apply Kd.R_alloc | apply Kd.R_drewN | apply Kd.R_drew)); exact HO_144001.out)) k_ hk, Kd.fresh' (Kd.R_lt (by (with_reducible repeat (first | apply Kd.R_alloc | apply Kd.R_drewN | apply Kd.R_drew)); exact HO_144002.out)) k_ hk, Kd.fresh' (Kd.R_lt (by (with_reducible repeat (first | apply Kd.R_alloc | apply Kd.R_drewN | apply Kd.R_drew)); exact HO_144003.out)) k_ hk⟩)); (case aO => exact (by (with_reducible repeat (first | apply Kd.R_alloc | apply Kd.R_drewN | apply Kd.R_drew)); exact HO_144000.out)); (case aS => exact (below_size (by repeat (first | (with_reducible first | exact HB.out | apply below_alloc | apply pw_below_drewN | apply below_drew1 | refine below_set ?_ GE141.out | refine below_set ?_ GE143.out) | exact HB.out)))); (case aL => have := LMc13.out; omega); intro v157 w16 ho hb hg hat; rw [← Ny156.out] at ho; have n0_ := Aside0.mk (Kd.R_after (ok := (fun k_ => some k_ ≠ (u144002 : Value).ownBlock ∧ some k_ ≠ (u144003 : Value).ownBlock)) (by (with_reducible repeat (first | apply Kd.R_alloc | apply Kd.R_drewN | apply Kd.R_drew)); exact Kd.R_mono HO_144001.out (fun _ hk => by first | exact ⟨⟨hk.2.1, hk.2.2⟩, hk.1⟩ | ((repeat' constructor) <;> (first | exact hk | exact hk.1 | exact hk.2 | exact hk.1.1 | exact hk.1.2 | exact hk.2.1 | exact hk.2.2 | exact hk.2.2.1 | exact hk.2.2.2 | exact hk.1.2.1 | exact hk.1.2.2 | exact hk.2.1.1 | exact hk.2.1.2 | exact hk.1.1.1 | exact hk.1.1.2)))) hg hat); have n1_ := Aside0.mk (Kd.R_after (ok := (fun k_ => some k_ ≠ (u144001 : Value).ownBlock ∧ some k_ ≠ (u144003 : Value).ownBlock)) (by (with_reducible repeat (first | apply Kd.R_alloc | apply Kd.R_drewN | apply Kd.R_drew)); exact Kd.R_mono HO_144002.out (fun _ hk => by first | exact ⟨⟨hk.2.1, hk.2.2⟩, hk.1⟩ | ((repeat' constructor) <;> (first | exact hk | exact hk.1 | exact hk.2 | exact hk.1.1 | exact hk.1.2 | exact hk.2.1 | exact hk.2.2 | exact hk.2.2.1 | exact hk.2.2.2 | exact hk.1.2.1 | exact hk.1.2.2 | exact hk.2.1.1 | exact hk.2.1.2 | exact hk.1.1.1 | exact hk.1.1.2)))) hg hat); have n2_ := Aside0.mk (Kd.R_after (ok := (fun k_ => some k_ ≠ (u144001 : Value).ownBlock ∧ some k_ ≠ (u144002 : Value).ownBlock)) (by (with_reducible repeat (first | apply Kd.R_alloc | apply Kd.R_drewN | apply Kd.R_drew)); exact Kd.R_mono HO_144003.out (fun _ hk => by first | exact ⟨⟨hk.2.1, hk.2.2⟩, hk.1⟩ | ((repeat' constructor) <;> (first | exact hk | exact hk.1 | exact hk.2 | exact hk.1.1 | exact hk.1.2 | exact hk.2.1 | exact hk.2.2 | exact hk.2.2.1 | exact hk.2.2.2 | exact hk.1.2.1 | exact hk.1.2.2 | exact hk.2.1.1 | exact hk.2.1.2 | exact hk.1.1.1 | exact hk.1.1.2)))) hg hat); have n3_ := Aside0.mk (blk_grown (g := gb141) (o := .cells #[.slice none 0 0, .slice none 0 0, .slice none 0 0, .slice none 0 0] 29 (0, 0)) (by (with_reducible repeat (first | refine blk_drewN ?_ _ | refine blk_drew ?_ | refine blk_alloc ?_ _)); exact BK141.out) hg (Kd.R_ne HO_144000.out BK141.out (by decide))); have n4_ := Aside0.mk (blk_grown (g := gb143) (o := .cells #[u144000, u144001, u144002, u144003] 29 (0, 0)) (by (with_reducible repeat (first | refine blk_drewN ?_ _ | refine blk_drew ?_ | refine blk_alloc ?_ _)); exact BK143.out) hg (Kd.R_ne HO_144000.out BK143.out (by decide))); have n5_ := Aside0.mk (hb); have n6_ := Aside0.mk (ho); clear HO_144001; clear HO_144002; clear HO_144003; clear BK141; clear BK143; clear HB; clear HO_144000; have HO_144001 := n0_; have HO_144002 := n1_; have HO_144003 := n2_; have BK141 := n3_; have BK143 := n4_; have HB := n5_; have HO158 := n6_; clear n0_ n1_ n2_ n3_ n4_ n5_ n6_; clear ho hb hg hat; obtain ⟨Ao17, co17, eo17⟩ := Kd.R_slice HO158.out; subst eo17; have hcz18_0 : w16.cell? ⟨gb143, 0, none⟩ = some (u144000) := (blk_cell BK143.out 0).trans rfl; have hcz18_1 : w16.cell? ⟨gb143, 1, none⟩ = some (u144001) := (blk_cell BK143.out 1).trans rfl; have hcz18_2 : w16.cell? ⟨gb143, 2, none⟩ = some (u144002) := (blk_cell BK143.out 2).trans rfl; have hcz18_3 : w16.cell? ⟨gb143, 3, none⟩ = some (u144003) := (blk_cell BK143.out 3).trans rfl; have hfz18_0 := blk_frozen BK143.out 0; have hfz18_1 := blk_frozen BK143.out 1; have hfz18_2 := blk_frozen BK143.out 2; have hfz18_3 := blk_frozen BK143.out 3))
                      go_roundg k1
                      case measure => have := HK1.out; omega
                      case rel => exact ⟨(wrap64 (x22_1 + 1)), (y156), (x144001_1), (x144002_1), (x144003_1), (.slice Ao17 y156.length co17), (u144001), (u144002), (u144003), (by first | rfl | (simp; done) | (simp [*]; done)), H', ⟨by have := HK1.out; omega⟩, ⟨by (with_reducible repeat (first | apply Kd.R_alloc | apply Kd.R_drewN | apply Kd.R_drew)); exact Kd.R_mono (Kd.R_far (p := ⟨gb143, 0, none⟩) (Kd.R_types HO158.out BK143.out (by decide)) (fun _ hk => hk.2) (.slice Ao17 y156.length co17)) (fun _ hk => by first | exact ⟨hk.1.1, ⟨hk.1.2.1, hk.1.2.2⟩⟩ | ((repeat' constructor) <;> (first | exact hk | exact hk.1 | exact hk.2 | exact hk.1.1 | exact hk.1.2 | exact hk.2.1 | exact hk.2.2 | exact hk.2.2.1 | exact hk.2.2.2 | exact hk.1.2.1 | exact hk.1.2.2 | exact hk.2.1.1 | exact hk.2.1.2 | exact hk.1.1.1 | exact hk.1.1.2)))⟩, ⟨by (with_reducible repeat (first | apply Kd.R_alloc | apply Kd.R_drewN | apply Kd.R_drew)); exact Kd.R_mono (Kd.R_far (p := ⟨gb143, 0, none⟩) (Kd.R_types HO_144001.out BK143.out (by decide)) (fun _ hk => hk.2) (.slice Ao17 y156.length co17)) (fun _ hk => by first | exact ⟨hk.1.2, ⟨hk.1.1.1, hk.1.1.2⟩⟩ | ((repeat' constructor) <;> (first | exact hk | exact hk.1 | exact hk.2 | exact hk.1.1 | exact hk.1.2 | exact hk.2.1 | exact hk.2.2 | exact hk.2.2.1 | exact hk.2.2.2 | exact hk.1.2.1 | exact hk.1.2.2 | exact hk.2.1.1 | exact hk.2.1.2 | exact hk.1.1.1 | exact hk.1.1.2)))⟩, ⟨by (with_reducible repeat (first | apply Kd.R_alloc | apply Kd.R_drewN | apply Kd.R_drew)); exact Kd.R_mono (Kd.R_far (p := ⟨gb143, 0, none⟩) (Kd.R_types HO_144002.out BK143.out (by decide)) (fun _ hk => hk.2) (.slice Ao17 y156.length co17)) (fun _ hk => by first | exact ⟨hk.1.2, ⟨hk.1.1.1, hk.1.1.2⟩⟩ | ((repeat' constructor) <;> (first | exact hk | exact hk.1 | exact hk.2 | exact hk.1.1 | exact hk.1.2 | exact hk.2.1 | exact hk.2.2 | exact hk.2.2.1 | exact hk.2.2.2 | exact hk.1.2.1 | exact hk.1.2.2 | exact hk.2.1.1 | exact hk.2.1.2 | exact hk.1.1.1 | exact hk.1.1.2)))⟩, ⟨by (with_reducible repeat (first | apply Kd.R_alloc | apply Kd.R_drewN | apply Kd.R_drew)); exact Kd.R_mono (Kd.R_far (p := ⟨gb143, 0, none⟩) (Kd.R_types HO_144003.out BK143.out (by decide)) (fun _ hk => hk.2) (.slice Ao17 y156.length co17)) (fun _ hk => by first | exact ⟨hk.1.2, ⟨hk.1.1.1, hk.1.1.2⟩⟩ | ((repeat' constructor) <;> (first | exact hk | exact hk.1 | exact hk.2 | exact hk.1.1 | exact hk.1.2 | exact hk.2.1 | exact hk.2.2 | exact hk.2.2.1 | exact hk.2.2.2 | exact hk.1.2.1 | exact hk.1.2.2 | exact hk.2.1.1 | exact hk.2.1.2 | exact hk.1.1.1 | exact hk.1.1.2)))⟩, ⟨by (with_reducible repeat (first | refine blk_drewN ?_ _ | refine blk_drew ?_ | refine blk_alloc ?_ _)); refine blk_far ?_ NB141_143.out _; (with_reducible repeat (first | refine blk_drewN ?_ _ | refine blk_drew ?_ | refine blk_alloc ?_ _)); exact BK141.out⟩, ⟨by (with_reducible repeat (first | refine blk_drewN ?_ _ | refine blk_drew ?_ | refine blk_alloc ?_ _)); refine blk_put (cs := #[u144000, u144001, u144002, u144003]) ?_ 0 _ rfl; (with_reducible repeat (first | refine blk_drewN ?_ _ | refine blk_drew ?_ | refine blk_alloc ?_ _)); exact BK143.out⟩, ⟨by repeat (first | (with_reducible first | exact HB.out | apply below_alloc | apply pw_below_drewN | apply below_drew1 | refine below_set ?_ GE141.out | refine below_set ?_ GE143.out) | exact HB.out)⟩⟩
                    · rw [if_neg c13] at H
                      exact absurd H (by simp)
                  · rw [if_neg c12] at H
                    clear c12
                    by_cases c19 : t145 = 1
                    · rw [if_pos c19] at H
                      subst c19
                      by_cases c20 : x144001_1.length < 140737488355328
                      · rw [if_pos c20] at H
                        have LMc20 := Aside0.mk c20
                        clear c20
                        obtain ⟨y153, hy153⟩ : ∃ y_ : List Int, y_ = (x144001_1 ++ [rd l0 x22_1]) := ⟨_, rfl⟩
                        replace H : (version_Split.l0 k1 l0 (l0.length : Int) (wrap64 (x22_1 + 1)) x144000_1 y153 x144002_1 x144003_1) = some (r1, r2, r3, r4, r5) := by first | (rw [hy153]; with_reducible exact H) | (have H2_ := (Option.bind_some _ _).symm.trans H; rw [hy153]; with_reducible exact H2_) | (have H2_ := (Option.bind_some _ _).symm.trans H; with_reducible exact H2_) | with_reducible exact H | (rw [hy153]; exact H) | exact H
                        have Ny153 := Aside0.mk hy153
                        clear hy153
                        have H' := Aside0.mk H
                        clear H
                        have p144 : 0 ≤ (x22_1 : Int) := of_decide_eq_true (by first | (with_reducible assumption) | assumption)
                        have q144 : x22_1 < (l0.length : Int) := of_decide_eq_true (by first | (with_reducible assumption) | assumption)
                        obtain ⟨ad144, e144, hx144_0⟩ := Kd.at_int HR0.out x22_1 p144 q144
                        cases e144
                        replace hx144_0 := (HB.out.cell (World.block_lt_of_cell? w _ hx144_0)).trans hx144_0
                        replace p144 := eq_true p144
                        replace q144 := eq_true q144
                        go_wp2_with (first | ((with_reducible refine gate_callee (f := 20) rfl ?_); refine goesL_ (some 32) rfl rfl Tryd.func20 (by kernel_rfl) rfl #[.int .i64 (Int.tmod x22_1 4), .int .i64 (wrap64 (Int.tdiv x22_1 4))] rfl (by (try simp only [List.map_toArray, List.map_cons, List.map_nil]); first | done | rfl | (simp only [List.length_drop, List.length_take]; rfl)) ?_; (with_reducible refine (pattern_Version.calls (Int.tmod x22_1 4) (wrap64 (Int.tdiv x22_1 4)) 1 t146 _ A10.out).mono ?_); rintro e w' ⟨rfl, ⟨nd, rfl⟩⟩; refine ⟨_, rfl, ?_⟩; (try (rw [drewN_self wr]; generalize hq_ : World.drewN wr _ = wr; have n0_ : Aside0 (Kd.R (Kd.int .u8) 5 wr w.heap.size (fun k_ => some k_ ≠ (u144001 : Value).ownBlock ∧ some k_ ≠ (u144002 : Value).ownBlock ∧ some k_ ≠ (u144003 : Value).ownBlock) u144000 x144000_1) := ⟨by rw [← hq_]; exact (by (with_reducible repeat (first | apply Kd.R_alloc | apply Kd.R_drewN | apply Kd.R_drew)); exact HO_144000.out)⟩; have n1_ : Aside0 (Kd.R (Kd.int .u8) 5 wr w.heap.size (fun k_ => some k_ ≠ (u144000 : Value).ownBlock ∧ some k_ ≠ (u144002 : Value).ownBlock ∧ some k_ ≠ (u144003 : Value).ownBlock) u144001 x144001_1) := ⟨by rw [← hq_]; exact (by (with_reducible repeat (first | apply Kd.R_alloc | apply Kd.R_drewN | apply Kd.R_drew)); exact HO_144001.out)⟩; have n2_ : Aside0 (Kd.R (Kd.int .u8) 5 wr w.heap.size (fun k_ => some k_ ≠ (u144000 : Value).ownBlock ∧ some k_ ≠ (u144001 : Value).ownBlock ∧ some k_ ≠ (u144003 : Value).ownBlock) u144002 x144002_1) := ⟨by rw [← hq_]; exact (by (with_reducible repeat (first | apply Kd.R_alloc | apply Kd.R_drewN | apply Kd.R_drew)); exact HO_144002.out)⟩; have n3_ : Aside0 (Kd.R (Kd.int .u8) 5 wr w.heap.size (fun k_ => some k_ ≠ (u144000 : Value).ownBlock ∧ some k_ ≠ (u144001 : Value).ownBlock ∧ some k_ ≠ (u144002 : Value).ownBlock) u144003 x144003_1) := ⟨by rw [← hq_]; exact (by (with_reducible repeat (first | apply Kd.R_alloc | apply Kd.R_drewN | apply Kd.R_drew)); exact HO_144003.out)⟩; have n4_ : Aside0 (wr.heap[gb141]? = some (.cells #[.slice none 0 0, .slice none 0 0, .slice none 0 0, .slice none 0 0] 29 (0, 0))) := ⟨by rw [← hq_]; exact (by (with_reducible repeat (first | refine blk_drewN ?_ _ | refine blk_drew ?_ | refine blk_alloc ?_ _)); exact BK141.out)⟩; have n5_ : Aside0 (wr.heap[gb143]? = some (.cells #[u144000, u144001, u144002, u144003] 29 (0, 0))) := ⟨by rw [← hq_]; exact (by (with_reducible repeat (first | refine blk_drewN ?_ _ | refine blk_drew ?_ | refine blk_alloc ?_ _)); exact BK143.out)⟩; have n6_ : Aside0 (Below w.heap.size w wr) := ⟨by rw [← hq_]; exact (by repeat (first | (with_reducible first | exact HB.out | apply below_alloc | apply pw_below_drewN | apply below_drew1 | refine below_set ?_ GE141.out | refine below_set ?_ GE143.out) | exact HB.out))⟩; clear HO_144000 HO_144001 HO_144002 HO_144003 BK141 BK143 HB hq_; have HO_144000 := n0_; have HO_144001 := n1_; have HO_144002 := n2_; have HO_144003 := n3_; have BK141 := n4_; have BK143 := n5_; have HB := n6_; clear n0_ n1_ n2_ n3_ n4_ n5_ n6_)); have hnb21 := NB143_141.out; have hnc21 := NB141_143.out; have hcz22_0 : wr.cell? ⟨gb143, 0, none⟩ = some (u144000) := (blk_cell BK143.out 0).trans rfl; have hcz22_1 : wr.cell? ⟨gb143, 1, none⟩ = some (u144001) := (blk_cell BK143.out 1).trans rfl; have hcz22_2 : wr.cell? ⟨gb143, 2, none⟩ = some (u144002) := (blk_cell BK143.out 2).trans rfl; have hcz22_3 : wr.cell? ⟨gb143, 3, none⟩ = some (u144003) := (blk_cell BK143.out 3).trans rfl; have hfz22_0 := blk_frozen BK143.out 0; have hfz22_1 := blk_frozen BK143.out 1; have hfz22_2 := blk_frozen BK143.out 2; have hfz22_3 := blk_frozen BK143.out 3) | ((with_reducible refine gate_builtin (b := .append) (xs := #[.tmp 42, .tmp 44]) rfl ?_); at_builtin; refine Kd.R_append (Kd.int .u8) (w0 := w) w.heap.size rfl (.tmp 42) (.tmp 44) 22 5 (.int .u8 0) 1 rfl Tryd.underlying22 info5 rfl (by decide) (by omega) u144001 x144001_1 (rd l0 x22_1) [.int .u8 (rd l0 x22_1)] (fun k_ => some k_ ≠ (u144000 : Value).ownBlock ∧ some k_ ≠ (u144002 : Value).ownBlock ∧ some k_ ≠ (u144003 : Value).ownBlock) (fun _ => False) rfl rfl ?aP (fun _ hk => hk.elim) ?aF ?aO ?aB ?aS ?aL ?_; (case aP => exact rfl); (case aB => exact (by repeat (first | (with_reducible first | exact HB.out | apply below_alloc | apply pw_below_drewN | apply below_drew1 | refine below_set ?_ GE141.out | refine below_set ?_ GE143.out) | exact HB.out))); (case aF => exact (fun k_ hk => ⟨Kd.fresh' (Kd.R_lt (by (with_reducible repeat (first | apply Kd.R_alloc | apply Kd.R_drewN | apply Kd.R_drew)); exact HO_144000.out)) k_ hk, Kd.fresh' (Kd.R_lt (by (with_reducible repeat (first | apply Kd.R_alloc | apply Kd.R_drewN | apply Kd.R_drew)); exact HO_144002.out)) k_ hk, Kd.fresh' (Kd.R_lt (by (with_reducible repeat (first | apply Kd.R_alloc | apply Kd.R_drewN | apply Kd.R_drew)); exact HO_144003.out)) k_ hk⟩)); (case aO => exact (by (with_reducible repeat (first | apply Kd.R_alloc | apply Kd.R_drewN | apply Kd.R_drew)); exact HO_144001.out)); (case aS => exact (below_size (by repeat (first | (with_reducible first | exact HB.out | apply below_alloc | apply pw_below_drewN | apply below_drew1 | refine below_set ?_ GE141.out | refine below_set ?_ GE143.out) | exact HB.out)))); (case aL => have := LMc20.out; omega); intro v154 w23 ho hb hg hat; rw [← Ny153.out] at ho; have n0_ := Aside0.mk (Kd.R_after (ok := (fun k_ => some k_ ≠ (u144002 : Value).ownBlock ∧ some k_ ≠ (u144003 : Value).ownBlock)) (by (with_reducible repeat (first | apply Kd.R_alloc | apply Kd.R_drewN | apply Kd.R_drew)); exact Kd.R_mono HO_144000.out (fun _ hk => by first | exact ⟨⟨hk.2.1, hk.2.2⟩, hk.1⟩ | ((repeat' constructor) <;> (first | exact hk | exact hk.1 | exact hk.2 | exact hk.1.1 | exact hk.1.2 | exact hk.2.1 | exact hk.2.2 | exact hk.2.2.1 | exact hk.2.2.2 | exact hk.1.2.1 | exact hk.1.2.2 | exact hk.2.1.1 | exact hk.2.1.2 | exact hk.1.1.1 | exact hk.1.1.2)))) hg hat); have n1_ := Aside0.mk (Kd.R_after (ok := (fun k_ => some k_ ≠ (u144000 : Value).ownBlock ∧ some k_ ≠ (u144003 : Value).ownBlock)) (by (with_reducible repeat (first | apply Kd.R_alloc | apply Kd.R_drewN | apply Kd.R_drew)); exact Kd.R_mono HO_144002.out (fun _ hk => by first | exact ⟨⟨hk.1, hk.2.2⟩, hk.2.1⟩ | ((repeat' constructor) <;> (first | exact hk | exact hk.1 | exact hk.2 | exact hk.1.1 | exact hk.1.2 | exact hk.2.1 | exact hk.2.2 | exact hk.2.2.1 | exact hk.2.2.2 | exact hk.1.2.1 | exact hk.1.2.2 | exact hk.2.1.1 | exact hk.2.1.2 | exact hk.1.1.1 | exact hk.1.1.2)))) hg hat); have n2_ := Aside0.mk (Kd.R_after (ok := (fun k_ => some k_ ≠ (u144000 : Value).ownBlock ∧ some k_ ≠ (u144002 : Value).ownBlock)) (by (with_reducible repeat (first | apply Kd.R_alloc | apply Kd.R_drewN | apply Kd.R_drew)); exact Kd.R_mono HO_144003.out (fun _ hk => by first | exact ⟨⟨hk.1, hk.2.2⟩, hk.2.1⟩ | ((repeat' constructor) <;> (first | exact hk | exact hk.1 | exact hk.2 | exact hk.1.1 | exact hk.1.2 | exact hk.2.1 | exact hk.2.2 | exact hk.2.2.1 | exact hk.2.2.2 | exact hk.1.2.1 | exact hk.1.2.2 | exact hk.2.1.1 | exact hk.2.1.2 | exact hk.1.1.1 | exact hk.1.1.2)))) hg hat); have n3_ := Aside0.mk (blk_grown (g := gb141) (o := .cells #[.slice none 0 0, .slice none 0 0, .slice none 0 0, .slice none 0 0] 29 (0, 0)) (by (with_reducible repeat (first | refine blk_drewN ?_ _ | refine blk_drew ?_ | refine blk_alloc ?_ _)); exact BK141.out) hg (Kd.R_ne HO_144001.out BK141.out (by decide))); have n4_ := Aside0.mk (blk_grown (g := gb143) (o := .cells #[u144000, u144001, u144002, u144003] 29 (0, 0)) (by (with_reducible repeat (first | refine blk_drewN ?_ _ | refine blk_drew ?_ | refine blk_alloc ?_ _)); exact BK143.out) hg (Kd.R_ne HO_144001.out BK143.out (by decide))); have n5_ := Aside0.mk (hb); have n6_ := Aside0.mk (ho); clear HO_144000; clear HO_144002; clear HO_144003; clear BK141; clear BK143; clear HB; clear HO_144001; have HO_144000 := n0_; have HO_144002 := n1_; have HO_144003 := n2_; have BK141 := n3_; have BK143 := n4_; have HB := n5_; have HO155 := n6_; clear n0_ n1_ n2_ n3_ n4_ n5_ n6_; clear ho hb hg hat; obtain ⟨Ao24, co24, eo24⟩ := Kd.R_slice HO155.out; subst eo24; have hcz25_0 : w23.cell? ⟨gb143, 0, none⟩ = some (u144000) := (blk_cell BK143.out 0).trans rfl; have hcz25_1 : w23.cell? ⟨gb143, 1, none⟩ = some (u144001) := (blk_cell BK143.out 1).trans rfl; have hcz25_2 : w23.cell? ⟨gb143, 2, none⟩ = some (u144002) := (blk_cell BK143.out 2).trans rfl; have hcz25_3 : w23.cell? ⟨gb143, 3, none⟩ = some (u144003) := (blk_cell BK143.out 3).trans rfl; have hfz25_0 := blk_frozen BK143.out 0; have hfz25_1 := blk_frozen BK143.out 1; have hfz25_2 := blk_frozen BK143.out 2; have hfz25_3 := blk_frozen BK143.out 3))
                        go_roundg k1
                        case measure => have := HK1.out; omega
                        case rel => exact ⟨(wrap64 (x22_1 + 1)), (x144000_1), (y153), (x144002_1), (x144003_1), (u144000), (.slice Ao24 y153.length co24), (u144002), (u144003), (by first | rfl | (simp; done) | (simp [*]; done)), H', ⟨by have := HK1.out; omega⟩, ⟨by (with_reducible repeat (first | apply Kd.R_alloc | apply Kd.R_drewN | apply Kd.R_drew)); exact Kd.R_mono (Kd.R_far (p := ⟨gb143, 1, none⟩) (Kd.R_types HO_144000.out BK143.out (by decide)) (fun _ hk => hk.2) (.slice Ao24 y153.length co24)) (fun _ hk => by first | exact ⟨hk.1.2, ⟨hk.1.1.1, hk.1.1.2⟩⟩ | ((repeat' constructor) <;> (first | exact hk | exact hk.1 | exact hk.2 | exact hk.1.1 | exact hk.1.2 | exact hk.2.1 | exact hk.2.2 | exact hk.2.2.1 | exact hk.2.2.2 | exact hk.1.2.1 | exact hk.1.2.2 | exact hk.2.1.1 | exact hk.2.1.2 | exact hk.1.1.1 | exact hk.1.1.2)))⟩, ⟨by (with_reducible repeat (first | apply Kd.R_alloc | apply Kd.R_drewN | apply Kd.R_drew)); exact Kd.R_mono (Kd.R_far (p := ⟨gb143, 1, none⟩) (Kd.R_types HO155.out BK143.out (by decide)) (fun _ hk => hk.2) (.slice Ao24 y153.length co24)) (fun _ hk => by first | exact ⟨hk.1.1, ⟨hk.1.2.1, hk.1.2.2⟩⟩ | ((repeat' constructor) <;> (first | exact hk | exact hk.1 | exact hk.2 | exact hk.1.1 | exact hk.1.2 | exact hk.2.1 | exact hk.2.2 | exact hk.2.2.1 | exact hk.2.2.2 | exact hk.1.2.1 | exact hk.1.2.2 | exact hk.2.1.1 | exact hk.2.1.2 | exact hk.1.1.1 | exact hk.1.1.2)))⟩, ⟨by (with_reducible repeat (first | apply Kd.R_alloc | apply Kd.R_drewN | apply Kd.R_drew)); exact Kd.R_mono (Kd.R_far (p := ⟨gb143, 1, none⟩) (Kd.R_types HO_144002.out BK143.out (by decide)) (fun _ hk => hk.2) (.slice Ao24 y153.length co24)) (fun _ hk => by first | exact ⟨hk.1.1.1, ⟨hk.1.2, hk.1.1.2⟩⟩ | ((repeat' constructor) <;> (first | exact hk | exact hk.1 | exact hk.2 | exact hk.1.1 | exact hk.1.2 | exact hk.2.1 | exact hk.2.2 | exact hk.2.2.1 | exact hk.2.2.2 | exact hk.1.2.1 | exact hk.1.2.2 | exact hk.2.1.1 | exact hk.2.1.2 | exact hk.1.1.1 | exact hk.1.1.2)))⟩, ⟨by (with_reducible repeat (first | apply Kd.R_alloc | apply Kd.R_drewN | apply Kd.R_drew)); exact Kd.R_mono (Kd.R_far (p := ⟨gb143, 1, none⟩) (Kd.R_types HO_144003.out BK143.out (by decide)) (fun _ hk => hk.2) (.slice Ao24 y153.length co24)) (fun _ hk => by first | exact ⟨hk.1.1.1, ⟨hk.1.2, hk.1.1.2⟩⟩ | ((repeat' constructor) <;> (first | exact hk | exact hk.1 | exact hk.2 | exact hk.1.1 | exact hk.1.2 | exact hk.2.1 | exact hk.2.2 | exact hk.2.2.1 | exact hk.2.2.2 | exact hk.1.2.1 | exact hk.1.2.2 | exact hk.2.1.1 | exact hk.2.1.2 | exact hk.1.1.1 | exact hk.1.1.2)))⟩, ⟨by (with_reducible repeat (first | refine blk_drewN ?_ _ | refine blk_drew ?_ | refine blk_alloc ?_ _)); refine blk_far ?_ NB141_143.out _; (with_reducible repeat (first | refine blk_drewN ?_ _ | refine blk_drew ?_ | refine blk_alloc ?_ _)); exact BK141.out⟩, ⟨by (with_reducible repeat (first | refine blk_drewN ?_ _ | refine blk_drew ?_ | refine blk_alloc ?_ _)); refine blk_put (cs := #[u144000, u144001, u144002, u144003]) ?_ 1 _ rfl; (with_reducible repeat (first | refine blk_drewN ?_ _ | refine blk_drew ?_ | refine blk_alloc ?_ _)); exact BK143.out⟩, ⟨by repeat (first | (with_reducible first | exact HB.out | apply below_alloc | apply pw_below_drewN | apply below_drew1 | refine below_set ?_ GE141.out | refine below_set ?_ GE143.out) | exact HB.out)⟩⟩
                      · rw [if_neg c20] at H
                        exact absurd H (by simp)
                    · rw [if_neg c19] at H
                      clear c19
                      by_cases c26 : t145 = 2
                      · rw [if_pos c26] at H
                        subst c26
                        by_cases c27 : x144002_1.length < 140737488355328
                        · rw [if_pos c27] at H
                          have LMc27 := Aside0.mk c27
                          clear c27
                          obtain ⟨y150, hy150⟩ : ∃ y_ : List Int, y_ = (x144002_1 ++ [rd l0 x22_1]) := ⟨_, rfl⟩
                          replace H : (version_Split.l0 k1 l0 (l0.length : Int) (wrap64 (x22_1 + 1)) x144000_1 x144001_1 y150 x144003_1) = some (r1, r2, r3, r4, r5) := by first | (rw [hy150]; with_reducible exact H) | (have H2_ := (Option.bind_some _ _).symm.trans H; rw [hy150]; with_reducible exact H2_) | (have H2_ := (Option.bind_some _ _).symm.trans H; with_reducible exact H2_) | with_reducible exact H | (rw [hy150]; exact H) | exact H
                          have Ny150 := Aside0.mk hy150
                          clear hy150
                          have H' := Aside0.mk H
                          clear H
                          have p144 : 0 ≤ (x22_1 : Int) := of_decide_eq_true (by first | (with_reducible assumption) | assumption)
                          have q144 : x22_1 < (l0.length : Int) := of_decide_eq_true (by first | (with_reducible assumption) | assumption)
                          obtain ⟨ad144, e144, hx144_0⟩ := Kd.at_int HR0.out x22_1 p144 q144
                          cases e144
                          replace hx144_0 := (HB.out.cell (World.block_lt_of_cell? w _ hx144_0)).trans hx144_0
                          replace p144 := eq_true p144
                          replace q144 := eq_true q144
                          go_wp2_with (first | ((with_reducible refine gate_callee (f := 20) rfl ?_); refine goesL_ (some 32) rfl rfl Tryd.func20 (by kernel_rfl) rfl #[.int .i64 (Int.tmod x22_1 4), .int .i64 (wrap64 (Int.tdiv x22_1 4))] rfl (by (try simp only [List.map_toArray, List.map_cons, List.map_nil]); first | done | rfl | (simp only [List.length_drop, List.length_take]; rfl)) ?_; (with_reducible refine (pattern_Version.calls (Int.tmod x22_1 4) (wrap64 (Int.tdiv x22_1 4)) 2 t146 _ A10.out).mono ?_); rintro e w' ⟨rfl, ⟨nd, rfl⟩⟩; refine ⟨_, rfl, ?_⟩; (try (rw [drewN_self wr]; generalize hq_ : World.drewN wr _ = wr; have n0_ : Aside0 (Kd.R (Kd.int .u8) 5 wr w.heap.size (fun k_ => some k_ ≠ (u144001 : Value).ownBlock ∧ some k_ ≠ (u144002 : Value).ownBlock ∧ some k_ ≠ (u144003 : Value).ownBlock) u144000 x144000_1) := ⟨by rw [← hq_]; exact (by (with_reducible repeat (first | apply Kd.R_alloc | apply Kd.R_drewN | apply Kd.R_drew)); exact HO_144000.out)⟩; have n1_ : Aside0 (Kd.R (Kd.int .u8) 5 wr w.heap.size (fun k_ => some k_ ≠ (u144000 : Value).ownBlock ∧ some k_ ≠ (u144002 : Value).ownBlock ∧ some k_ ≠ (u144003 : Value).ownBlock) u144001 x144001_1) := ⟨by rw [← hq_]; exact (by (with_reducible repeat (first | apply Kd.R_alloc | apply Kd.R_drewN | apply Kd.R_drew)); exact HO_144001.out)⟩; have n2_ : Aside0 (Kd.R (Kd.int .u8) 5 wr w.heap.size (fun k_ => some k_ ≠ (u144000 : Value).ownBlock ∧ some k_ ≠ (u144001 : Value).ownBlock ∧ some k_ ≠ (u144003 : Value).ownBlock) u144002 x144002_1) := ⟨by rw [← hq_]; exact (by (with_reducible repeat (first | apply Kd.R_alloc | apply Kd.R_drewN | apply Kd.R_drew)); exact HO_144002.out)⟩; have n3_ : Aside0 (Kd.R (Kd.int .u8) 5 wr w.heap.size (fun k_ => some k_ ≠ (u144000 : Value).ownBlock ∧ some k_ ≠ (u144001 : Value).ownBlock ∧ some k_ ≠ (u144002 : Value).ownBlock) u144003 x144003_1) := ⟨by rw [← hq_]; exact (by (with_reducible repeat (first | apply Kd.R_alloc | apply Kd.R_drewN | apply Kd.R_drew)); exact HO_144003.out)⟩; have n4_ : Aside0 (wr.heap[gb141]? = some (.cells #[.slice none 0 0, .slice none 0 0, .slice none 0 0, .slice none 0 0] 29 (0, 0))) := ⟨by rw [← hq_]; exact (by (with_reducible repeat (first | refine blk_drewN ?_ _ | refine blk_drew ?_ | refine blk_alloc ?_ _)); exact BK141.out)⟩; have n5_ : Aside0 (wr.heap[gb143]? = some (.cells #[u144000, u144001, u144002, u144003] 29 (0, 0))) := ⟨by rw [← hq_]; exact (by (with_reducible repeat (first | refine blk_drewN ?_ _ | refine blk_drew ?_ | refine blk_alloc ?_ _)); exact BK143.out)⟩; have n6_ : Aside0 (Below w.heap.size w wr) := ⟨by rw [← hq_]; exact (by repeat (first | (with_reducible first | exact HB.out | apply below_alloc | apply pw_below_drewN | apply below_drew1 | refine below_set ?_ GE141.out | refine below_set ?_ GE143.out) | exact HB.out))⟩; clear HO_144000 HO_144001 HO_144002 HO_144003 BK141 BK143 HB hq_; have HO_144000 := n0_; have HO_144001 := n1_; have HO_144002 := n2_; have HO_144003 := n3_; have BK141 := n4_; have BK143 := n5_; have HB := n6_; clear n0_ n1_ n2_ n3_ n4_ n5_ n6_)); have hnb28 := NB143_141.out; have hnc28 := NB141_143.out; have hcz29_0 : wr.cell? ⟨gb143, 0, none⟩ = some (u144000) := (blk_cell BK143.out 0).trans rfl; have hcz29_1 : wr.cell? ⟨gb143, 1, none⟩ = some (u144001) := (blk_cell BK143.out 1).trans rfl; have hcz29_2 : wr.cell? ⟨gb143, 2, none⟩ = some (u144002) := (blk_cell BK143.out 2).trans rfl; have hcz29_3 : wr.cell? ⟨gb143, 3, none⟩ = some (u144003) := (blk_cell BK143.out 3).trans rfl; have hfz29_0 := blk_frozen BK143.out 0; have hfz29_1 := blk_frozen BK143.out 1; have hfz29_2 := blk_frozen BK143.out 2; have hfz29_3 := blk_frozen BK143.out 3) | ((with_reducible refine gate_builtin (b := .append) (xs := #[.tmp 42, .tmp 44]) rfl ?_); at_builtin; refine Kd.R_append (Kd.int .u8) (w0 := w) w.heap.size rfl (.tmp 42) (.tmp 44) 22 5 (.int .u8 0) 1 rfl Tryd.underlying22 info5 rfl (by decide) (by omega) u144002 x144002_1 (rd l0 x22_1) [.int .u8 (rd l0 x22_1)] (fun k_ => some k_ ≠ (u144000 : Value).ownBlock ∧ some k_ ≠ (u144001 : Value).ownBlock ∧ some k_ ≠ (u144003 : Value).ownBlock) (fun _ => False) rfl rfl ?aP (fun _ hk => hk.elim) ?aF ?aO ?aB ?aS ?aL ?_; (case aP => exact rfl); (case aB => exact (by repeat (first | (with_reducible first | exact HB.out | apply below_alloc | apply pw_below_drewN | apply below_drew1 | refine below_set ?_ GE141.out | refine below_set ?_ GE143.out) | exact HB.out))); (case aF => exact (fun k_ hk => ⟨Kd.fresh' (Kd.R_lt (by (with_reducible repeat (first | apply Kd.R_alloc | apply Kd.R_drewN | apply Kd.R_drew)); exact HO_144000.out)) k_ hk, Kd.fresh' (Kd.R_lt (by (with_reducible repeat (first | apply Kd.R_alloc | apply Kd.R_drewN | apply Kd.R_drew)); exact HO_144001.out)) k_ hk, Kd.fresh' (Kd.R_lt (by (with_reducible repeat (first | apply Kd.R_alloc | apply Kd.R_drewN | apply Kd.R_drew)); exact HO_144003.out)) k_ hk⟩)); (case aO => exact (by (with_reducible repeat (first | apply Kd.R_alloc | apply Kd.R_drewN | apply Kd.R_drew)); exact HO_144002.out)); (case aS => exact (below_size (by repeat (first | (with_reducible first | exact HB.out | apply below_alloc | apply pw_below_drewN | apply below_drew1 | refine below_set ?_ GE141.out | refine below_set ?_ GE143.out) | exact HB.out)))); (case aL => have := LMc27.out; omega); intro v151 w30 ho hb hg hat; rw [← Ny150.out] at ho; have n0_ := Aside0.mk (Kd.R_after (ok := (fun k_ => some k_ ≠ (u144001 : Value).ownBlock ∧ some k_ ≠ (u144003 : Value).ownBlock)) (by (with_reducible repeat (first | apply Kd.R_alloc | apply Kd.R_drewN | apply Kd.R_drew)); exact Kd.R_mono HO_144000.out (fun _ hk => by first | exact ⟨⟨hk.1, hk.2.2⟩, hk.2.1⟩ | ((repeat' constructor) <;> (first | exact hk | exact hk.1 | exact hk.2 | exact hk.1.1 | exact hk.1.2 | exact hk.2.1 | exact hk.2.2 | exact hk.2.2.1 | exact hk.2.2.2 | exact hk.1.2.1 | exact hk.1.2.2 | exact hk.2.1.1 | exact hk.2.1.2 | exact hk.1.1.1 | exact hk.1.1.2)))) hg hat); have n1_ := Aside0.mk (Kd.R_after (ok := (fun k_ => some k_ ≠ (u144000 : Value).ownBlock ∧ some k_ ≠ (u144003 : Value).ownBlock)) (by (with_reducible repeat (first | apply Kd.R_alloc | apply Kd.R_drewN | apply Kd.R_drew)); exact Kd.R_mono HO_144001.out (fun _ hk => by first | exact ⟨⟨hk.1, hk.2.2⟩, hk.2.1⟩ | ((repeat' constructor) <;> (first | exact hk | exact hk.1 | exact hk.2 | exact hk.1.1 | exact hk.1.2 | exact hk.2.1 | exact hk.2.2 | exact hk.2.2.1 | exact hk.2.2.2 | exact hk.1.2.1 | exact hk.1.2.2 | exact hk.2.1.1 | exact hk.2.1.2 | exact hk.1.1.1 | exact hk.1.1.2)))) hg hat); have n2_ := Aside0.mk (Kd.R_after (ok := (fun k_ => some k_ ≠ (u144000 : Value).ownBlock ∧ some k_ ≠ (u144001 : Value).ownBlock)) (by (with_reducible repeat (first | apply Kd.R_alloc | apply Kd.R_drewN | apply Kd.R_drew)); exact Kd.R_mono HO_144003.out (fun _ hk => by first | exact ⟨⟨hk.1, hk.2.1⟩, hk.2.2⟩ | ((repeat' constructor) <;> (first | exact hk | exact hk.1 | exact hk.2 | exact hk.1.1 | exact hk.1.2 | exact hk.2.1 | exact hk.2.2 | exact hk.2.2.1 | exact hk.2.2.2 | exact hk.1.2.1 | exact hk.1.2.2 | exact hk.2.1.1 | exact hk.2.1.2 | exact hk.1.1.1 | exact hk.1.1.2)))) hg hat); have n3_ := Aside0.mk (blk_grown (g := gb141) (o := .cells #[.slice none 0 0, .slice none 0 0, .slice none 0 0, .slice none 0 0] 29 (0, 0)) (by (with_reducible repeat (first | refine blk_drewN ?_ _ | refine blk_drew ?_ | refine blk_alloc ?_ _)); exact BK141.out) hg (Kd.R_ne HO_144002.out BK141.out (by decide))); have n4_ := Aside0.mk (blk_grown (g := gb143) (o := .cells #[u144000, u144001, u144002, u144003] 29 (0, 0)) (by (with_reducible repeat (first | refine blk_drewN ?_ _ | refine blk_drew ?_ | refine blk_alloc ?_ _)); exact BK143.out) hg (Kd.R_ne HO_144002.out BK143.out (by decide))); have n5_ := Aside0.mk (hb); have n6_ := Aside0.mk (ho); clear HO_144000; clear HO_144001; clear HO_144003; clear BK141; clear BK143; clear HB; clear HO_144002; have HO_144000 := n0_; have HO_144001 := n1_; have HO_144003 := n2_; have BK141 := n3_; have BK143 := n4_; have HB := n5_; have HO152 := n6_; clear n0_ n1_ n2_ n3_ n4_ n5_ n6_; clear ho hb hg hat; obtain ⟨Ao31, co31, eo31⟩ := Kd.R_slice HO152.out; subst eo31; have hcz32_0 : w30.cell? ⟨gb143, 0, none⟩ = some (u144000) := (blk_cell BK143.out 0).trans rfl; have hcz32_1 : w30.cell? ⟨gb143, 1, none⟩ = some (u144001) := (blk_cell BK143.out 1).trans rfl; have hcz32_2 : w30.cell? ⟨gb143, 2, none⟩ = some (u144002) := (blk_cell BK143.out 2).trans rfl; have hcz32_3 : w30.cell? ⟨gb143, 3, none⟩ = some (u144003) := (blk_cell BK143.out 3).trans rfl; have hfz32_0 := blk_frozen BK143.out 0; have hfz32_1 := blk_frozen BK143.out 1; have hfz32_2 := blk_frozen BK143.out 2; have hfz32_3 := blk_frozen BK143.out 3))
                          go_roundg k1
                          case measure => have := HK1.out; omega
                          case rel => exact ⟨(wrap64 (x22_1 + 1)), (x144000_1), (x144001_1), (y150), (x144003_1), (u144000), (u144001), (.slice Ao31 y150.length co31), (u144003), (by first | rfl | (simp; done) | (simp [*]; done)), H', ⟨by have := HK1.out; omega⟩, ⟨by (with_reducible repeat (first | apply Kd.R_alloc | apply Kd.R_drewN | apply Kd.R_drew)); exact Kd.R_mono (Kd.R_far (p := ⟨gb143, 2, none⟩) (Kd.R_types HO_144000.out BK143.out (by decide)) (fun _ hk => hk.2) (.slice Ao31 y150.length co31)) (fun _ hk => by first | exact ⟨hk.1.1.1, ⟨hk.1.2, hk.1.1.2⟩⟩ | ((repeat' constructor) <;> (first | exact hk | exact hk.1 | exact hk.2 | exact hk.1.1 | exact hk.1.2 | exact hk.2.1 | exact hk.2.2 | exact hk.2.2.1 | exact hk.2.2.2 | exact hk.1.2.1 | exact hk.1.2.2 | exact hk.2.1.1 | exact hk.2.1.2 | exact hk.1.1.1 | exact hk.1.1.2)))⟩, ⟨by (with_reducible repeat (first | apply Kd.R_alloc | apply Kd.R_drewN | apply Kd.R_drew)); exact Kd.R_mono (Kd.R_far (p := ⟨gb143, 2, none⟩) (Kd.R_types HO_144001.out BK143.out (by decide)) (fun _ hk => hk.2) (.slice Ao31 y150.length co31)) (fun _ hk => by first | exact ⟨hk.1.1.1, ⟨hk.1.2, hk.1.1.2⟩⟩ | ((repeat' constructor) <;> (first | exact hk | exact hk.1 | exact hk.2 | exact hk.1.1 | exact hk.1.2 | exact hk.2.1 | exact hk.2.2 | exact hk.2.2.1 | exact hk.2.2.2 | exact hk.1.2.1 | exact hk.1.2.2 | exact hk.2.1.1 | exact hk.2.1.2 | exact hk.1.1.1 | exact hk.1.1.2)))⟩, ⟨by (with_reducible repeat (first | apply Kd.R_alloc | apply Kd.R_drewN | apply Kd.R_drew)); exact Kd.R_mono (Kd.R_far (p := ⟨gb143, 2, none⟩) (Kd.R_types HO152.out BK143.out (by decide)) (fun _ hk => hk.2) (.slice Ao31 y150.length co31)) (fun _ hk => by first | exact ⟨hk.1.1, ⟨hk.1.2.1, hk.1.2.2⟩⟩ | ((repeat' constructor) <;> (first | exact hk | exact hk.1 | exact hk.2 | exact hk.1.1 | exact hk.1.2 | exact hk.2.1 | exact hk.2.2 | exact hk.2.2.1 | exact hk.2.2.2 | exact hk.1.2.1 | exact hk.1.2.2 | exact hk.2.1.1 | exact hk.2.1.2 | exact hk.1.1.1 | exact hk.1.1.2)))⟩, ⟨by (with_reducible repeat (first | apply Kd.R_alloc | apply Kd.R_drewN | apply Kd.R_drew)); exact Kd.R_mono (Kd.R_far (p := ⟨gb143, 2, none⟩) (Kd.R_types HO_144003.out BK143.out (by decide)) (fun _ hk => hk.2) (.slice Ao31 y150.length co31)) (fun _ hk => by first | exact ⟨hk.1.1.1, ⟨hk.1.1.2, hk.1.2⟩⟩ | ((repeat' constructor) <;> (first | exact hk | exact hk.1 | exact hk.2 | exact hk.1.1 | exact hk.1.2 | exact hk.2.1 | exact hk.2.2 | exact hk.2.2.1 | exact hk.2.2.2 | exact hk.1.2.1 | exact hk.1.2.2 | exact hk.2.1.1 | exact hk.2.1.2 | exact hk.1.1.1 | exact hk.1.1.2)))⟩, ⟨by (with_reducible repeat (first | refine blk_drewN ?_ _ | refine blk_drew ?_ | refine blk_alloc ?_ _)); refine blk_far ?_ NB141_143.out _; (with_reducible repeat (first | refine blk_drewN ?_ _ | refine blk_drew ?_ | refine blk_alloc ?_ _)); exact BK141.out⟩, ⟨by (with_reducible repeat (first | refine blk_drewN ?_ _ | refine blk_drew ?_ | refine blk_alloc ?_ _)); refine blk_put (cs := #[u144000, u144001, u144002, u144003]) ?_ 2 _ rfl; (with_reducible repeat (first | refine blk_drewN ?_ _ | refine blk_drew ?_ | refine blk_alloc ?_ _)); exact BK143.out⟩, ⟨by repeat (first | (with_reducible first | exact HB.out | apply below_alloc | apply pw_below_drewN | apply below_drew1 | refine below_set ?_ GE141.out | refine below_set ?_ GE143.out) | exact HB.out)⟩⟩
                        · rw [if_neg c27] at H
                          exact absurd H (by simp)
                      · rw [if_neg c26] at H
                        clear c26
                        by_cases c33 : t145 = 3
                        · rw [if_pos c33] at H
                          subst c33
                          by_cases c34 : x144003_1.length < 140737488355328
                          · rw [if_pos c34] at H
                            have LMc34 := Aside0.mk c34
                            clear c34
                            obtain ⟨y147, hy147⟩ : ∃ y_ : List Int, y_ = (x144003_1 ++ [rd l0 x22_1]) := ⟨_, rfl⟩
                            replace H : (version_Split.l0 k1 l0 (l0.length : Int) (wrap64 (x22_1 + 1)) x144000_1 x144001_1 x144002_1 y147) = some (r1, r2, r3, r4, r5) := by first | (rw [hy147]; with_reducible exact H) | (have H2_ := (Option.bind_some _ _).symm.trans H; rw [hy147]; with_reducible exact H2_) | (have H2_ := (Option.bind_some _ _).symm.trans H; with_reducible exact H2_) | with_reducible exact H | (rw [hy147]; exact H) | exact H
                            have Ny147 := Aside0.mk hy147
                            clear hy147
                            have H' := Aside0.mk H
                            clear H
                            have p144 : 0 ≤ (x22_1 : Int) := of_decide_eq_true (by first | (with_reducible assumption) | assumption)
                            have q144 : x22_1 < (l0.length : Int) := of_decide_eq_true (by first | (with_reducible assumption) | assumption)
                            obtain ⟨ad144, e144, hx144_0⟩ := Kd.at_int HR0.out x22_1 p144 q144
                            cases e144
                            replace hx144_0 := (HB.out.cell (World.block_lt_of_cell? w _ hx144_0)).trans hx144_0
                            replace p144 := eq_true p144
                            replace q144 := eq_true q144
                            go_wp2_with (first | ((with_reducible refine gate_callee (f := 20) rfl ?_); refine goesL_ (some 32) rfl rfl Tryd.func20 (by kernel_rfl) rfl #[.int .i64 (Int.tmod x22_1 4), .int .i64 (wrap64 (Int.tdiv x22_1 4))] rfl (by (try simp only [List.map_toArray, List.map_cons, List.map_nil]); first | done | rfl | (simp only [List.length_drop, List.length_take]; rfl)) ?_; (with_reducible refine (pattern_Version.calls (Int.tmod x22_1 4) (wrap64 (Int.tdiv x22_1 4)) 3 t146 _ A10.out).mono ?_); rintro e w' ⟨rfl, ⟨nd, rfl⟩⟩; refine ⟨_, rfl, ?_⟩; (try (rw [drewN_self wr]; generalize hq_ : World.drewN wr _ = wr; have n0_ : Aside0 (Kd.R (Kd.int .u8) 5 wr w.heap.size (fun k_ => some k_ ≠ (u144001 : Value).ownBlock ∧ some k_ ≠ (u144002 : Value).ownBlock ∧ some k_ ≠ (u144003 : Value).ownBlock) u144000 x144000_1) := ⟨by rw [← hq_]; exact (by (with_reducible repeat (first | apply Kd.R_alloc | apply Kd.R_drewN | apply Kd.R_drew)); exact HO_144000.out)⟩; have n1_ : Aside0 (Kd.R (Kd.int .u8) 5 wr w.heap.size (fun k_ => some k_ ≠ (u144000 : Value).ownBlock ∧ some k_ ≠ (u144002 : Value).ownBlock ∧ some k_ ≠ (u144003 : Value).ownBlock) u144001 x144001_1) := ⟨by rw [← hq_]; exact (by (with_reducible repeat (first | apply Kd.R_alloc | apply Kd.R_drewN | apply Kd.R_drew)); exact HO_144001.out)⟩; have n2_ : Aside0 (Kd.R (Kd.int .u8) 5 wr w.heap.size (fun k_ => some k_ ≠ (u144000 : Value).ownBlock ∧ some k_ ≠ (u144001 : Value).ownBlock ∧ some k_ ≠ (u144003 : Value).ownBlock) u144002 x144002_1) := ⟨by rw [← hq_]; exact (by (with_reducible repeat (first | apply Kd.R_alloc | apply Kd.R_drewN | apply Kd.R_drew)); exact HO_144002.out)⟩; have n3_ : Aside0 (Kd.R (Kd.int .u8) 5 wr w.heap.size (fun k_ => some k_ ≠ (u144000 : Value).ownBlock ∧ some k_ ≠ (u144001 : Value).ownBlock ∧ some k_ ≠ (u144002 : Value).ownBlock) u144003 x144003_1) := ⟨by rw [← hq_]; exact (by (with_reducible repeat (first | apply Kd.R_alloc | apply Kd.R_drewN | apply Kd.R_drew)); exact HO_144003.out)⟩; have n4_ : Aside0 (wr.heap[gb141]? = some (.cells #[.slice none 0 0, .slice none 0 0, .slice none 0 0, .slice none 0 0] 29 (0, 0))) := ⟨by rw [← hq_]; exact (by (with_reducible repeat (first | refine blk_drewN ?_ _ | refine blk_drew ?_ | refine blk_alloc ?_ _)); exact BK141.out)⟩; have n5_ : Aside0 (wr.heap[gb143]? = some (.cells #[u144000, u144001, u144002, u144003] 29 (0, 0))) := ⟨by rw [← hq_]; exact (by (with_reducible repeat (first | refine blk_drewN ?_ _ | refine blk_drew ?_ | refine blk_alloc ?_ _)); exact BK143.out)⟩; have n6_ : Aside0 (Below w.heap.size w wr) := ⟨by rw [← hq_]; exact (by repeat (first | (with_reducible first | exact HB.out | apply below_alloc | apply pw_below_drewN | apply below_drew1 | refine below_set ?_ GE141.out | refine below_set ?_ GE143.out) | exact HB.out))⟩; clear HO_144000 HO_144001 HO_144002 HO_144003 BK141 BK143 HB hq_; have HO_144000 := n0_; have HO_144001 := n1_; have HO_144002 := n2_; have HO_144003 := n3_; have BK141 := n4_; have BK143 := n5_; have HB := n6_; clear n0_ n1_ n2_ n3_ n4_ n5_ n6_)); have hnb35 := NB143_141.out; have hnc35 := NB141_143.out; have hcz36_0 : wr.cell? ⟨gb143, 0, none⟩ = some (u144000) := (blk_cell BK143.out 0).trans rfl; have hcz36_1 : wr.cell? ⟨gb143, 1, none⟩ = some (u144001) := (blk_cell BK143.out 1).trans rfl; have hcz36_2 : wr.cell? ⟨gb143, 2, none⟩ = some (u144002) := (blk_cell BK143.out 2).trans rfl; have hcz36_3 : wr.cell? ⟨gb143, 3, none⟩ = some (u144003) := (blk_cell BK143.out 3).trans rfl; have hfz36_0 := blk_frozen BK143.out 0; have hfz36_1 := blk_frozen BK143.out 1; have hfz36_2 := blk_frozen BK143.out 2; have hfz36_3 := blk_frozen BK143.out 3) | ((with_reducible refine gate_builtin (b := .append) (xs := #[.tmp 42, .tmp 44]) rfl ?_); at_builtin; refine Kd.R_append (Kd.int .u8) (w0 := w) w.heap.size rfl (.tmp 42) (.tmp 44) 22 5 (.int .u8 0) 1 rfl Tryd.underlying22 info5 rfl (by decide) (by omega) u144003 x144003_1 (rd l0 x22_1) [.int .u8 (rd l0 x22_1)] (fun k_ => some k_ ≠ (u144000 : Value).ownBlock ∧ some k_ ≠ (u144001 : Value).ownBlock ∧ some k_ ≠ (u144002 : Value).ownBlock) (fun _ => False) rfl rfl ?aP (fun _ hk => hk.elim) ?aF ?aO ?aB ?aS ?aL ?_; (case aP => exact rfl); (case aB => exact (by repeat (first | (with_reducible first | exact HB.out | apply below_alloc | apply pw_below_drewN | apply below_drew1 | refine below_set ?_ GE141.out | refine below_set ?_ GE143.out) | exact HB.out))); (case aF => exact (fun k_ hk => ⟨Kd.fresh' (Kd.R_lt (by (with_reducible repeat (first | apply Kd.R_alloc | apply Kd.R_drewN | apply Kd.R_drew)); exact HO_144000.out)) k_ hk, Kd.fresh' (Kd.R_lt (by (with_reducible repeat (first | apply Kd.R_alloc | apply Kd.R_drewN | apply Kd.R_drew)); exact HO_144001.out)) k_ hk, Kd.fresh' (Kd.R_lt (by (with_reducible repeat (first | apply Kd.R_alloc | apply Kd.R_drewN | apply Kd.R_drew)); exact HO_144002.out)) k_ hk⟩)); (case aO => exact (by (with_reducible repeat (first | apply Kd.R_alloc | apply Kd.R_drewN | apply Kd.R_drew)); exact HO_144003.out)); (case aS => exact (below_size (by repeat (first | (with_reducible first | exact HB.out | apply below_alloc | apply pw_below_drewN | apply below_drew1 | refine below_set ?_ GE141.out | refine below_set ?_ GE143.out) | exact HB.out)))); (case aL => have := LMc34.out; omega); intro v148 w37 ho hb hg hat; rw [← Ny147.out] at ho; have n0_ := Aside0.mk (Kd.R_after (ok := (fun k_ => some k_ ≠ (u144001 : Value).ownBlock ∧ some k_ ≠ (u144002 : Value).ownBlock)) (by (with_reducible repeat (first | apply Kd.R_alloc | apply Kd.R_drewN | apply Kd.R_drew)); exact Kd.R_mono HO_144000.out (fun _ hk => by first | exact ⟨⟨hk.1, hk.2.1⟩, hk.2.2⟩ | ((repeat' constructor) <;> (first | exact hk | exact hk.1 | exact hk.2 | exact hk.1.1 | exact hk.1.2 | exact hk.2.1 | exact hk.2.2 | exact hk.2.2.1 | exact hk.2.2.2 | exact hk.1.2.1 | exact hk.1.2.2 | exact hk.2.1.1 | exact hk.2.1.2 | exact hk.1.1.1 | exact hk.1.1.2)))) hg hat); have n1_ := Aside0.mk (Kd.R_after (ok := (fun k_ => some k_ ≠ (u144000 : Value).ownBlock ∧ some k_ ≠ (u144002 : Value).ownBlock)) (by (with_reducible repeat (first | apply Kd.R_alloc | apply Kd.R_drewN | apply Kd.R_drew)); exact Kd.R_mono HO_144001.out (fun _ hk => by first | exact ⟨⟨hk.1, hk.2.1⟩, hk.2.2⟩ | ((repeat' constructor) <;> (first | exact hk | exact hk.1 | exact hk.2 | exact hk.1.1 | exact hk.1.2 | exact hk.2.1 | exact hk.2.2 | exact hk.2.2.1 | exact hk.2.2.2 | exact hk.1.2.1 | exact hk.1.2.2 | exact hk.2.1.1 | exact hk.2.1.2 | exact hk.1.1.1 | exact hk.1.1.2)))) hg hat); have n2_ := Aside0.mk (Kd.R_after (ok := (fun k_ => some k_ ≠ (u144000 : Value).ownBlock ∧ some k_ ≠ (u144001 : Value).ownBlock)) (by (with_reducible repeat (first | apply Kd.R_alloc | apply Kd.R_drewN | apply Kd.R_drew)); exact Kd.R_mono HO_144002.out (fun _ hk => by first | exact ⟨⟨hk.1, hk.2.1⟩, hk.2.2⟩ | ((repeat' constructor) <;> (first | exact hk | exact hk.1 | exact hk.2 | exact hk.1.1 | exact hk.1.2 | exact hk.2.1 | exact hk.2.2 | exact hk.2.2.1 | exact hk.2.2.2 | exact hk.1.2.1 | exact hk.1.2.2 | exact hk.2.1.1 | exact hk.2.1.2 | exact hk.1.1.1 | exact hk.1.1.2)))) hg hat); have n3_ := Aside0.mk (blk_grown (g := gb141) (o := .cells #[.slice none 0 0, .slice none 0 0, .slice none 0 0, .slice none 0 0] 29 (0, 0)) (by (with_reducible repeat (first | refine blk_drewN ?_ _ | refine blk_drew ?_ | refine blk_alloc ?_ _)); exact BK141.out) hg (Kd.R_ne HO_144003.out BK141.out (by decide))); have n4_ := Aside0.mk (blk_grown (g := gb143) (o := .cells #[u144000, u144001, u144002, u144003] 29 (0, 0)) (by (with_reducible repeat (first | refine blk_drewN ?_ _ | refine blk_drew ?_ | refine blk_alloc ?_ _)); exact BK143.out) hg (Kd.R_ne HO_144003.out BK143.out (by decide))); have n5_ := Aside0.mk (hb); have n6_ := Aside0.mk (ho); clear HO_144000; clear HO_144001; clear HO_144002; clear BK141; clear BK143; clear HB; clear HO_144003; have HO_144000 := n0_; have HO_144001 := n1_; have HO_144002 := n2_; have BK141 := n3_; have BK143 := n4_; have HB := n5_; have HO149 := n6_; clear n0_ n1_ n2_ n3_ n4_ n5_ n6_; clear ho hb hg hat; obtain ⟨Ao38, co38, eo38⟩ := Kd.R_slice HO149.out; subst eo38; have hcz39_0 : w37.cell? ⟨gb143, 0, none⟩ = some (u144000) := (blk_cell BK143.out 0).trans rfl; have hcz39_1 : w37.cell? ⟨gb143, 1, none⟩ = some (u144001) := (blk_cell BK143.out 1).trans rfl; have hcz39_2 : w37.cell? ⟨gb143, 2, none⟩ = some (u144002) := (blk_cell BK143.out 2).trans rfl; have hcz39_3 : w37.cell? ⟨gb143, 3, none⟩ = some (u144003) := (blk_cell BK143.out 3).trans rfl; have hfz39_0 := blk_frozen BK143.out 0; have hfz39_1 := blk_frozen BK143.out 1; have hfz39_2 := blk_frozen BK143.out 2; have hfz39_3 := blk_frozen BK143.out 3))
                            go_roundg k1
                            case measure => have := HK1.out; omega
                            case rel => exact ⟨(wrap64 (x22_1 + 1)), (x144000_1), (x144001_1), (x144002_1), (y147), (u144000), (u144001), (u144002), (.slice Ao38 y147.length co38), (by first | rfl | (simp; done) | (simp [*]; done)), H', ⟨by have := HK1.out; omega⟩, ⟨by (with_reducible repeat (first | apply Kd.R_alloc | apply Kd.R_drewN | apply Kd.R_drew)); exact Kd.R_mono (Kd.R_far (p := ⟨gb143, 3, none⟩) (Kd.R_types HO_144000.out BK143.out (by decide)) (fun _ hk => hk.2) (.slice Ao38 y147.length co38)) (fun _ hk => by first | exact ⟨hk.1.1.1, ⟨hk.1.1.2, hk.1.2⟩⟩ | ((repeat' constructor) <;> (first | exact hk | exact hk.1 | exact hk.2 | exact hk.1.1 | exact hk.1.2 | exact hk.2.1 | exact hk.2.2 | exact hk.2.2.1 | exact hk.2.2.2 | exact hk.1.2.1 | exact hk.1.2.2 | exact hk.2.1.1 | exact hk.2.1.2 | exact hk.1.1.1 | exact hk.1.1.2)))⟩, ⟨by (with_reducible repeat (first | apply Kd.R_alloc | apply Kd.R_drewN | apply Kd.R_drew)); exact Kd.R_mono (Kd.R_far (p := ⟨gb143, 3, none⟩) (Kd.R_types HO_144001.out BK143.out (by decide)) (fun _ hk => hk.2) (.slice Ao38 y147.length co38)) (fun _ hk => by first | exact ⟨hk.1.1.1, ⟨hk.1.1.2, hk.1.2⟩⟩ | ((repeat' constructor) <;> (first | exact hk | exact hk.1 | exact hk.2 | exact hk.1.1 | exact hk.1.2 | exact hk.2.1 | exact hk.2.2 | exact hk.2.2.1 | exact hk.2.2.2 | exact hk.1.2.1 | exact hk.1.2.2 | exact hk.2.1.1 | exact hk.2.1.2 | exact hk.1.1.1 | exact hk.1.1.2)))⟩, ⟨by (with_reducible repeat (first | apply Kd.R_alloc | apply Kd.R_drewN | apply Kd.R_drew)); exact Kd.R_mono (Kd.R_far (p := ⟨gb143, 3, none⟩) (Kd.R_types HO_144002.out BK143.out (by decide)) (fun _ hk => hk.2) (.slice Ao38 y147.length co38)) (fun _ hk => by first | exact ⟨hk.1.1.1, ⟨hk.1.1.2, hk.1.2⟩⟩ | ((repeat' constructor) <;> (first | exact hk | exact hk.1 | exact hk.2 | exact hk.1.1 | exact hk.1.2 | exact hk.2.1 | exact hk.2.2 | exact hk.2.2.1 | exact hk.2.2.2 | exact hk.1.2.1 | exact hk.1.2.2 | exact hk.2.1.1 | exact hk.2.1.2 | exact hk.1.1.1 | exact hk.1.1.2)))⟩, ⟨by (with_reducible repeat (first | apply Kd.R_alloc | apply Kd.R_drewN | apply Kd.R_drew)); exact Kd.R_mono (Kd.R_far (p := ⟨gb143, 3, none⟩) (Kd.R_types HO149.out BK143.out (by decide)) (fun _ hk => hk.2) (.slice Ao38 y147.length co38)) (fun _ hk => by first | exact ⟨hk.1.1, ⟨hk.1.2.1, hk.1.2.2⟩⟩ | ((repeat' constructor) <;> (first | exact hk | exact hk.1 | exact hk.2 | exact hk.1.1 | exact hk.1.2 | exact hk.2.1 | exact hk.2.2 | exact hk.2.2.1 | exact hk.2.2.2 | exact hk.1.2.1 | exact hk.1.2.2 | exact hk.2.1.1 | exact hk.2.1.2 | exact hk.1.1.1 | exact hk.1.1.2)))⟩, ⟨by (with_reducible repeat (first | refine blk_drewN ?_ _ | refine blk_drew ?_ | refine blk_alloc ?_ _)); refine blk_far ?_ NB141_143.out _; (with_reducible repeat (first | refine blk_drewN ?_ _ | refine blk_drew ?_ | refine blk_alloc ?_ _)); exact BK141.out⟩, ⟨by (with_reducible repeat (first | refine blk_drewN ?_ _ | refine blk_drew ?_ | refine blk_alloc ?_ _)); refine blk_put (cs := #[u144000, u144001, u144002, u144003]) ?_ 3 _ rfl; (with_reducible repeat (first | refine blk_drewN ?_ _ | refine blk_drew ?_ | refine blk_alloc ?_ _)); exact BK143.out⟩, ⟨by repeat (first | (with_reducible first | exact HB.out | apply below_alloc | apply pw_below_drewN | apply below_drew1 | refine below_set ?_ GE141.out | refine below_set ?_ GE143.out) | exact HB.out)⟩⟩
                          · rw [if_neg c34] at H
                            exact absurd H (by simp)
                        · rw [if_neg c33] at H
                          clear c33
                          exact absurd H (by simp)
                · rw [if_neg c11] at H
                  have c11b0 : (t146 == 0) = false := beq_eq_false_iff_ne.mpr c11
                  have c11b1 : (t146 != 0) = true := bne_iff_ne.mpr c11
                  simp only [Option.some.injEq, Prod.mk.injEq] at H
                  obtain ⟨rfl, rfl, rfl, rfl, rfl⟩ := H
                  have p144 : 0 ≤ (x22_1 : Int) := of_decide_eq_true (by first | (with_reducible assumption) | assumption)
                  have q144 : x22_1 < (l0.length : Int) := of_decide_eq_true (by first | (with_reducible assumption) | assumption)
                  obtain ⟨ad144, e144, hx144_0⟩ := Kd.at_int HR0.out x22_1 p144 q144
                  cases e144
                  replace hx144_0 := (HB.out.cell (World.block_lt_of_cell? w _ hx144_0)).trans hx144_0
                  replace p144 := eq_true p144
                  replace q144 := eq_true q144
                  go_wp2_with (first | ((with_reducible refine gate_callee (f := 20) rfl ?_); refine goesL_ (some 32) rfl rfl Tryd.func20 (by kernel_rfl) rfl #[.int .i64 (Int.tmod x22_1 4), .int .i64 (wrap64 (Int.tdiv x22_1 4))] rfl (by (try simp only [List.map_toArray, List.map_cons, List.map_nil]); first | done | rfl | (simp only [List.length_drop, List.length_take]; rfl)) ?_; (with_reducible refine (pattern_Version.calls (Int.tmod x22_1 4) (wrap64 (Int.tdiv x22_1 4)) t145 t146 _ A10.out).mono ?_); rintro e w' ⟨rfl, ⟨nd, rfl⟩⟩; refine ⟨_, rfl, ?_⟩; (try (rw [drewN_self wr]; generalize hq_ : World.drewN wr _ = wr; have n0_ : Aside0 (Kd.R (Kd.int .u8) 5 wr w.heap.size (fun k_ => some k_ ≠ (u144001 : Value).ownBlock ∧ some k_ ≠ (u144002 : Value).ownBlock ∧ some k_ ≠ (u144003 : Value).ownBlock) u144000 x144000_1) := ⟨by rw [← hq_]; exact (by (with_reducible repeat (first | apply Kd.R_alloc | apply Kd.R_drewN | apply Kd.R_drew)); exact HO_144000.out)⟩; have n1_ : Aside0 (Kd.R (Kd.int .u8) 5 wr w.heap.size (fun k_ => some k_ ≠ (u144000 : Value).ownBlock ∧ some k_ ≠ (u144002 : Value).ownBlock ∧ some k_ ≠ (u144003 : Value).ownBlock) u144001 x144001_1) := ⟨by rw [← hq_]; exact (by (with_reducible repeat (first | apply Kd.R_alloc | apply Kd.R_drewN | apply Kd.R_drew)); exact HO_144001.out)⟩; have n2_ : Aside0 (Kd.R (Kd.int .u8) 5 wr w.heap.size (fun k_ => some k_ ≠ (u144000 : Value).ownBlock ∧ some k_ ≠ (u144001 : Value).ownBlock ∧ some k_ ≠ (u144003 : Value).ownBlock) u144002 x144002_1) := ⟨by rw [← hq_]; exact (by (with_reducible repeat (first | apply Kd.R_alloc | apply Kd.R_drewN | apply Kd.R_drew)); exact HO_144002.out)⟩; have n3_ : Aside0 (Kd.R (Kd.int .u8) 5 wr w.heap.size (fun k_ => some k_ ≠ (u144000 : Value).ownBlock ∧ some k_ ≠ (u144001 : Value).ownBlock ∧ some k_ ≠ (u144002 : Value).ownBlock) u144003 x144003_1) := ⟨by rw [← hq_]; exact (by (with_reducible repeat (first | apply Kd.R_alloc | apply Kd.R_drewN | apply Kd.R_drew)); exact HO_144003.out)⟩; have n4_ : Aside0 (wr.heap[gb141]? = some (.cells #[.slice none 0 0, .slice none 0 0, .slice none 0 0, .slice none 0 0] 29 (0, 0))) := ⟨by rw [← hq_]; exact (by (with_reducible repeat (first | refine blk_drewN ?_ _ | refine blk_drew ?_ | refine blk_alloc ?_ _)); exact BK141.out)⟩; have n5_ : Aside0 (wr.heap[gb143]? = some (.cells #[u144000, u144001, u144002, u144003] 29 (0, 0))) := ⟨by rw [← hq_]; exact (by (with_reducible repeat (first | refine blk_drewN ?_ _ | refine blk_drew ?_ | refine blk_alloc ?_ _)); exact BK143.out)⟩; have n6_ : Aside0 (Below w.heap.size w wr) := ⟨by rw [← hq_]; exact (by repeat (first | (with_reducible first | exact HB.out | apply below_alloc | apply pw_below_drewN | apply below_drew1 | refine below_set ?_ GE141.out | refine below_set ?_ GE143.out) | exact HB.out))⟩; clear HO_144000 HO_144001 HO_144002 HO_144003 BK141 BK143 HB hq_; have HO_144000 := n0_; have HO_144001 := n1_; have HO_144002 := n2_; have HO_144003 := n3_; have BK141 := n4_; have BK143 := n5_; have HB := n6_; clear n0_ n1_ n2_ n3_ n4_ n5_ n6_)); have hnb40 := NB141_143.out; have hnc40 := NB143_141.out; have hcz41_0 : wr.cell? ⟨gb141, 0, none⟩ = some (.slice none 0 0) := (blk_cell BK141.out 0).trans rfl; have hcz41_1 : wr.cell? ⟨gb141, 1, none⟩ = some (.slice none 0 0) := (blk_cell BK141.out 1).trans rfl; have hcz41_2 : wr.cell? ⟨gb141, 2, none⟩ = some (.slice none 0 0) := (blk_cell BK141.out 2).trans rfl; have hcz41_3 : wr.cell? ⟨gb141, 3, none⟩ = some (.slice none 0 0) := (blk_cell BK141.out 3).trans rfl; have hfz41_0 := blk_frozen BK141.out 0; have hfz41_1 := blk_frozen BK141.out 1; have hfz41_2 := blk_frozen BK141.out 2; have hfz41_3 := blk_frozen BK141.out 3))
                  refine bodyPost_ret (results_ct rfl _ _ gb141 29 #[.slice none 0 0, .slice none 0 0, .slice none 0 0, .slice none 0 0] (0, 0) _ rfl (by (with_reducible repeat (first | refine blk_drewN ?_ _ | refine blk_drew ?_ | refine blk_alloc ?_ _)); refine blk_put (cs := #[.slice none 0 0, .slice none 0 0, .slice none 0 0, .slice none 0 0]) ?_ 3 _ rfl; (with_reducible repeat (first | refine blk_drewN ?_ _ | refine blk_drew ?_ | refine blk_alloc ?_ _)); refine blk_put (cs := #[.slice none 0 0, .slice none 0 0, .slice none 0 0, .slice none 0 0]) ?_ 2 _ rfl; (with_reducible repeat (first | refine blk_drewN ?_ _ | refine blk_drew ?_ | refine blk_alloc ?_ _)); refine blk_put (cs := #[.slice none 0 0, .slice none 0 0, .slice none 0 0, .slice none 0 0]) ?_ 1 _ rfl; (with_reducible repeat (first | refine blk_drewN ?_ _ | refine blk_drew ?_ | refine blk_alloc ?_ _)); refine blk_put (cs := #[.slice none 0 0, .slice none 0 0, .slice none 0 0, .slice none 0 0]) ?_ 0 _ rfl; (with_reducible repeat (first | refine blk_drewN ?_ _ | refine blk_drew ?_ | refine blk_alloc ?_ _)); exact BK141.out) Tryd.underlying29 rfl (by kernel_rfl)) rfl ?_
                  exact ⟨_, _, _, _, by first | rfl | (simp [errW_none, errW_some] <;> rfl) | (simp [*, errW_none, errW_some] <;> rfl), by first | exact Kd.R_nil _ _ _ _ _ | exact Kd.N_nil _ _ _ _ _ | exact Kd.V_nil _ _ _ _ _ | exact Kd.Q_nil _ _ _ _ _ | exact Kd.S_nil _ _ _ _ _, by first | exact Kd.R_nil _ _ _ _ _ | exact Kd.N_nil _ _ _ _ _ | exact Kd.V_nil _ _ _ _ _ | exact Kd.Q_nil _ _ _ _ _ | exact Kd.S_nil _ _ _ _ _, by first | exact Kd.R_nil _ _ _ _ _ | exact Kd.N_nil _ _ _ _ _ | exact Kd.V_nil _ _ _ _ _ | exact Kd.Q_nil _ _ _ _ _ | exact Kd.S_nil _ _ _ _ _, by first | exact Kd.R_nil _ _ _ _ _ | exact Kd.N_nil _ _ _ _ _ | exact Kd.V_nil _ _ _ _ _ | exact Kd.Q_nil _ _ _ _ _ | exact Kd.S_nil _ _ _ _ _, by repeat (first | (with_reducible first | exact HB.out | apply below_alloc | apply pw_below_drewN | apply below_drew1 | refine below_set ?_ GE141.out | refine below_set ?_ GE143.out) | exact HB.out)⟩
              · rw [if_neg c9] at H
                exact absurd H (by simp)
            · rw [if_neg c8] at H
              exact absurd H (by simp)
          · rw [if_neg c7] at H
            have c7b0 : decide (x22_1 < (l0.length : Int)) = false := decide_eq_false c7
            clear c7
            simp only [Option.some.injEq, Prod.mk.injEq] at H
            obtain ⟨rfl, rfl, rfl, rfl, rfl⟩ := H
            have hnb42 := NB143_141.out
            have hnc42 := NB141_143.out
            have hcz43_0 : wr.cell? ⟨gb143, 0, none⟩ = some (u144000) := (blk_cell BK143.out 0).trans rfl
            have hcz43_1 : wr.cell? ⟨gb143, 1, none⟩ = some (u144001) := (blk_cell BK143.out 1).trans rfl
            have hcz43_2 : wr.cell? ⟨gb143, 2, none⟩ = some (u144002) := (blk_cell BK143.out 2).trans rfl
            have hcz43_3 : wr.cell? ⟨gb143, 3, none⟩ = some (u144003) := (blk_cell BK143.out 3).trans rfl
            have hfz43_0 := blk_frozen BK143.out 0
            have hfz43_1 := blk_frozen BK143.out 1
            have hfz43_2 := blk_frozen BK143.out 2
            have hfz43_3 := blk_frozen BK143.out 3
            obtain ⟨Ao44, co44, eo44⟩ := Kd.R_slice HO_144000.out
            subst eo44
            have hcz45_0 : wr.cell? ⟨gb141, 0, none⟩ = some (.slice none 0 0) := (blk_cell BK141.out 0).trans rfl
            have hcz45_1 : wr.cell? ⟨gb141, 1, none⟩ = some (.slice none 0 0) := (blk_cell BK141.out 1).trans rfl
            have hcz45_2 : wr.cell? ⟨gb141, 2, none⟩ = some (.slice none 0 0) := (blk_cell BK141.out 2).trans rfl
            have hcz45_3 : wr.cell? ⟨gb141, 3, none⟩ = some (.slice none 0 0) := (blk_cell BK141.out 3).trans rfl
            have hfz45_0 := blk_frozen BK141.out 0
            have hfz45_1 := blk_frozen BK141.out 1
            have hfz45_2 := blk_frozen BK141.out 2
            have hfz45_3 := blk_frozen BK141.out 3
            obtain ⟨Ao46, co46, eo46⟩ := Kd.R_slice HO_144001.out
            subst eo46
            obtain ⟨Ao47, co47, eo47⟩ := Kd.R_slice HO_144002.out
            subst eo47
            obtain ⟨Ao48, co48, eo48⟩ := Kd.R_slice HO_144003.out
            subst eo48
            go_wp2
            refine bodyPost_ret (results_ct rfl _ _ gb141 29 #[.slice Ao44 x144000_1.length co44, .slice Ao46 x144001_1.length co46, .slice Ao47 x144002_1.length co47, .slice Ao48 x144003_1.length co48] (0, 0) _ rfl (by (with_reducible repeat (first | refine blk_drewN ?_ _ | refine blk_drew ?_ | refine blk_alloc ?_ _)); refine blk_put (cs := #[.slice Ao44 x144000_1.length co44, .slice Ao46 x144001_1.length co46, .slice Ao47 x144002_1.length co47, .slice none 0 0]) ?_ 3 _ rfl; (with_reducible repeat (first | refine blk_drewN ?_ _ | refine blk_drew ?_ | refine blk_alloc ?_ _)); refine blk_put (cs := #[.slice Ao44 x144000_1.length co44, .slice Ao46 x144001_1.length co46, .slice none 0 0, .slice none 0 0]) ?_ 2 _ rfl; (with_reducible repeat (first | refine blk_drewN ?_ _ | refine blk_drew ?_ | refine blk_alloc ?_ _)); refine blk_put (cs := #[.slice Ao44 x144000_1.length co44, .slice none 0 0, .slice none 0 0, .slice none 0 0]) ?_ 1 _ rfl; (with_reducible repeat (first | refine blk_drewN ?_ _ | refine blk_drew ?_ | refine blk_alloc ?_ _)); refine blk_put (cs := #[.slice none 0 0, .slice none 0 0, .slice none 0 0, .slice none 0 0]) ?_ 0 _ rfl; (with_reducible repeat (first | refine blk_drewN ?_ _ | refine blk_drew ?_ | refine blk_alloc ?_ _)); exact BK141.out) Tryd.underlying29 rfl (by kernel_rfl)) rfl ?_
            exact ⟨_, _, _, _, by first | rfl | (simp [errW_none, errW_some] <;> rfl) | (simp [*, errW_none, errW_some] <;> rfl), by (with_reducible repeat (first | apply Kd.R_alloc | apply Kd.R_drewN | apply Kd.R_drew)); exact Kd.R_mono (Kd.R_far (p := ⟨gb141, 3, none⟩) (Kd.R_far (p := ⟨gb141, 2, none⟩) (Kd.R_far (p := ⟨gb141, 1, none⟩) (Kd.R_far (p := ⟨gb141, 0, none⟩) (Kd.R_types HO_144000.out BK141.out (by decide)) (fun _ hk => hk.2) (.slice Ao44 x144000_1.length co44)) (fun _ hk => hk.2) (.slice Ao46 x144001_1.length co46)) (fun _ hk => hk.2) (.slice Ao47 x144002_1.length co47)) (fun _ hk => hk.2) (.slice Ao48 x144003_1.length co48)) (fun _ hk => by first | exact ⟨hk.1.1, ⟨hk.1.2.1, hk.1.2.2⟩⟩ | ((repeat' constructor) <;> (first | exact hk | exact hk.1 | exact hk.2 | exact hk.1.1 | exact hk.1.2 | exact hk.2.1 | exact hk.2.2 | exact hk.2.2.1 | exact hk.2.2.2 | exact hk.1.2.1 | exact hk.1.2.2 | exact hk.2.1.1 | exact hk.2.1.2 | exact hk.1.1.1 | exact hk.1.1.2))), by (with_reducible repeat (first | apply Kd.R_alloc | apply Kd.R_drewN | apply Kd.R_drew)); exact Kd.R_mono (Kd.R_far (p := ⟨gb141, 3, none⟩) (Kd.R_far (p := ⟨gb141, 2, none⟩) (Kd.R_far (p := ⟨gb141, 1, none⟩) (Kd.R_far (p := ⟨gb141, 0, none⟩) (Kd.R_types HO_144001.out BK141.out (by decide)) (fun _ hk => hk.2) (.slice Ao44 x144000_1.length co44)) (fun _ hk => hk.2) (.slice Ao46 x144001_1.length co46)) (fun _ hk => hk.2) (.slice Ao47 x144002_1.length co47)) (fun _ hk => hk.2) (.slice Ao48 x144003_1.length co48)) (fun _ hk => by first | exact ⟨hk.1.1, ⟨hk.1.2.1, hk.1.2.2⟩⟩ | ((repeat' constructor) <;> (first | exact hk | exact hk.1 | exact hk.2 | exact hk.1.1 | exact hk.1.2 | exact hk.2.1 | exact hk.2.2 | exact hk.2.2.1 | exact hk.2.2.2 | exact hk.1.2.1 | exact hk.1.2.2 | exact hk.2.1.1 | exact hk.2.1.2 | exact hk.1.1.1 | exact hk.1.1.2))), by (with_reducible repeat (first | apply Kd.R_alloc | apply Kd.R_drewN | apply Kd.R_drew)); exact Kd.R_mono (Kd.R_far (p := ⟨gb141, 3, none⟩) (Kd.R_far (p := ⟨gb141, 2, none⟩) (Kd.R_far (p := ⟨gb141, 1, none⟩) (Kd.R_far (p := ⟨gb141, 0, none⟩) (Kd.R_types HO_144002.out BK141.out (by decide)) (fun _ hk => hk.2) (.slice Ao44 x144000_1.length co44)) (fun _ hk => hk.2) (.slice Ao46 x144001_1.length co46)) (fun _ hk => hk.2) (.slice Ao47 x144002_1.length co47)) (fun _ hk => hk.2) (.slice Ao48 x144003_1.length co48)) (fun _ hk => by first | exact ⟨hk.1.1, ⟨hk.1.2.1, hk.1.2.2⟩⟩ | ((repeat' constructor) <;> (first | exact hk | exact hk.1 | exact hk.2 | exact hk.1.1 | exact hk.1.2 | exact hk.2.1 | exact hk.2.2 | exact hk.2.2.1 | exact hk.2.2.2 | exact hk.1.2.1 | exact hk.1.2.2 | exact hk.2.1.1 | exact hk.2.1.2 | exact hk.1.1.1 | exact hk.1.1.2))), by (with_reducible repeat (first | apply Kd.R_alloc | apply Kd.R_drewN | apply Kd.R_drew)); exact Kd.R_mono (Kd.R_far (p := ⟨gb141, 3, none⟩) (Kd.R_far (p := ⟨gb141, 2, none⟩) (Kd.R_far (p := ⟨gb141, 1, none⟩) (Kd.R_far (p := ⟨gb141, 0, none⟩) (Kd.R_types HO_144003.out BK141.out (by decide)) (fun _ hk => hk.2) (.slice Ao44 x144000_1.length co44)) (fun _ hk => hk.2) (.slice Ao46 x144001_1.length co46)) (fun _ hk => hk.2) (.slice Ao47 x144002_1.length co47)) (fun _ hk => hk.2) (.slice Ao48 x144003_1.length co48)) (fun _ hk => by first | exact ⟨hk.1.1, ⟨hk.1.2.1, hk.1.2.2⟩⟩ | ((repeat' constructor) <;> (first | exact hk | exact hk.1 | exact hk.2 | exact hk.1.1 | exact hk.1.2 | exact hk.2.1 | exact hk.2.2 | exact hk.2.2.1 | exact hk.2.2.2 | exact hk.1.2.1 | exact hk.1.2.2 | exact hk.2.1.1 | exact hk.2.1.2 | exact hk.1.1.1 | exact hk.1.1.2))), by repeat (first | (with_reducible first | exact HB.out | apply below_alloc | apply pw_below_drewN | apply below_drew1 | refine below_set ?_ GE141.out | refine below_set ?_ GE143.out) | exact HB.out)⟩
    · rw [if_neg c4] at H
      have c4b0 : (((l0.length : Int) % 4) == 0) = false := beq_eq_false_iff_ne.mpr c4
      have c4b1 : (((l0.length : Int) % 4) != 0) = true := bne_iff_ne.mpr c4
      simp only [Option.some.injEq, Prod.mk.injEq] at H
      obtain ⟨rfl, rfl, rfl, rfl, rfl⟩ := H
      go_enter Tryd.func7, Tryd.ntmps7
      go_wp2_with (first | ((with_reducible refine gate_dst (N := 2) rfl ?_); refine box_event ?hg (N := 2) ?hd (cs := #[.slice none 0 0, .slice none 0 0, .slice none 0 0, .slice none 0 0]) (t := 29) ?hr ?_; (case hd => rfl); (case hg => rfl); (case hr => first | (go_simp; done) | (go_simp; rfl)); intro gb141 hg w49 hbox hb; have n0_ := Aside0.mk (below_step (by repeat (first | (with_reducible first | exact HB.out | apply below_alloc | apply pw_below_drewN | apply below_drew1) | exact HB.out)) hb); have n1_ := Aside0.mk (hbox); have n2_ := Aside0.mk ((by rw [hg]; exact (below_size (by repeat (first | (with_reducible first | exact HB.out | apply below_alloc | apply pw_below_drewN | apply below_drew1) | exact HB.out))) : w.heap.size ≤ gb141)); have n3_ := Aside0.mk ((by rw [hg]; exact (below_size (by repeat (first | (with_reducible first | exact HB.out | apply below_alloc | apply pw_below_drewN | apply below_drew1) | exact HB.out))) : w.heap.size ≤ gb141)); clear HB; have HB := n0_; have BK141 := n1_; have GW141 := n2_; have GE141 := n3_; clear n0_ n1_ n2_ n3_; clear hb hbox hg) | ((with_reducible refine gate_callee (f := 16) rfl ?_); refine goesL_ (some 11) rfl rfl Tryd.func16 (by kernel_rfl) rfl #[.slice A0 l0.length c0] rfl (by (try simp only [List.map_toArray, List.map_cons, List.map_nil]); first | done | rfl | (simp only [List.length_drop, List.length_take]; rfl)) ?_; (with_reducible refine (bits_Right.calls k _ _ l0 true _ ?side1 ?side2 A2.out).mono ?_); (case side1 => repeat (first | exact (Kd.C_below HR0.out HB.out) | (with_reducible refine Kd.C_alloc ?_ _) | (with_reducible refine Kd.C_drewN ?_ _) | (with_reducible refine Kd.C_drew ?_))); (case side2 => exact HC0.out); rintro e w' ⟨rfl, ⟨nd, rfl⟩⟩; refine ⟨_, rfl, ?_⟩; (try (rw [drewN_self w49]; generalize hq_ : World.drewN w49 _ = w49; have n0_ : Aside0 (w49.heap[gb141]? = some (.cells #[.slice none 0 0, .slice none 0 0, .slice none 0 0, .slice none 0 0] 29 (0, 0))) := ⟨by rw [← hq_]; exact (by (with_reducible repeat (first | refine blk_drewN ?_ _ | refine blk_drew ?_ | refine blk_alloc ?_ _)); exact BK141.out)⟩; have n1_ : Aside0 (Below w.heap.size w w49) := ⟨by rw [← hq_]; exact (by repeat (first | (with_reducible first | exact HB.out | apply below_alloc | apply pw_below_drewN | apply below_drew1 | refine below_set ?_ GE141.out) | exact HB.out))⟩; clear BK141 HB hq_; have BK141 := n0_; have HB := n1_; clear n0_ n1_)); have hcz50_0 : w49.cell? ⟨gb141, 0, none⟩ = some (.slice none 0 0) := (blk_cell BK141.out 0).trans rfl; have hcz50_1 : w49.cell? ⟨gb141, 1, none⟩ = some (.slice none 0 0) := (blk_cell BK141.out 1).trans rfl; have hcz50_2 : w49.cell? ⟨gb141, 2, none⟩ = some (.slice none 0 0) := (blk_cell BK141.out 2).trans rfl; have hcz50_3 : w49.cell? ⟨gb141, 3, none⟩ = some (.slice none 0 0) := (blk_cell BK141.out 3).trans rfl; have hfz50_0 := blk_frozen BK141.out 0; have hfz50_1 := blk_frozen BK141.out 1; have hfz50_2 := blk_frozen BK141.out 2; have hfz50_3 := blk_frozen BK141.out 3))
      refine bodyPost_ret (results_ct rfl _ _ gb141 29 #[.slice none 0 0, .slice none 0 0, .slice none 0 0, .slice none 0 0] (0, 0) _ rfl (by (with_reducible repeat (first | refine blk_drewN ?_ _ | refine blk_drew ?_ | refine blk_alloc ?_ _)); refine blk_put (cs := #[.slice none 0 0, .slice none 0 0, .slice none 0 0, .slice none 0 0]) ?_ 3 _ rfl; (with_reducible repeat (first | refine blk_drewN ?_ _ | refine blk_drew ?_ | refine blk_alloc ?_ _)); refine blk_put (cs := #[.slice none 0 0, .slice none 0 0, .slice none 0 0, .slice none 0 0]) ?_ 2 _ rfl; (with_reducible repeat (first | refine blk_drewN ?_ _ | refine blk_drew ?_ | refine blk_alloc ?_ _)); refine blk_put (cs := #[.slice none 0 0, .slice none 0 0, .slice none 0 0, .slice none 0 0]) ?_ 1 _ rfl; (with_reducible repeat (first | refine blk_drewN ?_ _ | refine blk_drew ?_ | refine blk_alloc ?_ _)); refine blk_put (cs := #[.slice none 0 0, .slice none 0 0, .slice none 0 0, .slice none 0 0]) ?_ 0 _ rfl; (with_reducible repeat (first | refine blk_drewN ?_ _ | refine blk_drew ?_ | refine blk_alloc ?_ _)); exact BK141.out) Tryd.underlying29 rfl (by kernel_rfl)) rfl ?_
      exact ⟨_, _, _, _, by first | rfl | (simp [errW_none, errW_some] <;> rfl) | (simp [*, errW_none, errW_some] <;> rfl), by first | exact Kd.R_nil _ _ _ _ _ | exact Kd.N_nil _ _ _ _ _ | exact Kd.V_nil _ _ _ _ _ | exact Kd.Q_nil _ _ _ _ _ | exact Kd.S_nil _ _ _ _ _, by first | exact Kd.R_nil _ _ _ _ _ | exact Kd.N_nil _ _ _ _ _ | exact Kd.V_nil _ _ _ _ _ | exact Kd.Q_nil _ _ _ _ _ | exact Kd.S_nil _ _ _ _ _, by first | exact Kd.R_nil _ _ _ _ _ | exact Kd.N_nil _ _ _ _ _ | exact Kd.V_nil _ _ _ _ _ | exact Kd.Q_nil _ _ _ _ _ | exact Kd.S_nil _ _ _ _ _, by first | exact Kd.R_nil _ _ _ _ _ | exact Kd.N_nil _ _ _ _ _ | exact Kd.V_nil _ _ _ _ _ | exact Kd.Q_nil _ _ _ _ _ | exact Kd.S_nil _ _ _ _ _, by repeat (first | (with_reducible first | exact HB.out | apply below_alloc | apply pw_below_drewN | apply below_drew1 | refine below_set ?_ GE141.out) | exact HB.out)⟩
  · replace c3 := Bool.eq_false_iff.mpr c3
    subst c3
    have H1 : (some (([] : List Int), ([] : List Int), ([] : List Int), ([] : List Int), 5)) = some (r1, r2, r3, r4, r5) := by rw [if_neg (show ¬ (false = true) by decide)] at H; exact H
    clear H
    have H := H1
    clear H1
    simp only [Option.some.injEq, Prod.mk.injEq] at H
    obtain ⟨rfl, rfl, rfl, rfl, rfl⟩ := H
    go_enter Tryd.func7, Tryd.ntmps7
    go_wp2_with (first | ((with_reducible refine gate_dst (N := 2) rfl ?_); refine box_event ?hg (N := 2) ?hd (cs := #[.slice none 0 0, .slice none 0 0, .slice none 0 0, .slice none 0 0]) (t := 29) ?hr ?_; (case hd => rfl); (case hg => rfl); (case hr => first | (go_simp; done) | (go_simp; rfl)); intro gb141 hg w51 hbox hb; have n0_ := Aside0.mk (below_step (by repeat (first | (with_reducible first | exact HB.out | apply below_alloc | apply pw_below_drewN | apply below_drew1) | exact HB.out)) hb); have n1_ := Aside0.mk (hbox); have n2_ := Aside0.mk ((by rw [hg]; exact (below_size (by repeat (first | (with_reducible first | exact HB.out | apply below_alloc | apply pw_below_drewN | apply below_drew1) | exact HB.out))) : w.heap.size ≤ gb141)); have n3_ := Aside0.mk ((by rw [hg]; exact (below_size (by repeat (first | (with_reducible first | exact HB.out | apply below_alloc | apply pw_below_drewN | apply below_drew1) | exact HB.out))) : w.heap.size ≤ gb141)); clear HB; have HB := n0_; have BK141 := n1_; have GW141 := n2_; have GE141 := n3_; clear n0_ n1_ n2_ n3_; clear hb hbox hg) | ((with_reducible refine gate_callee (f := 16) rfl ?_); refine goesL_ (some 11) rfl rfl Tryd.func16 (by kernel_rfl) rfl #[.slice A0 l0.length c0] rfl (by (try simp only [List.map_toArray, List.map_cons, List.map_nil]); first | done | rfl | (simp only [List.length_drop, List.length_take]; rfl)) ?_; (with_reducible refine (bits_Right.calls k _ _ l0 false _ ?side1 ?side2 A2.out).mono ?_); (case side1 => repeat (first | exact (Kd.C_below HR0.out HB.out) | (with_reducible refine Kd.C_alloc ?_ _) | (with_reducible refine Kd.C_drewN ?_ _) | (with_reducible refine Kd.C_drew ?_))); (case side2 => exact HC0.out); rintro e w' ⟨rfl, ⟨nd, rfl⟩⟩; refine ⟨_, rfl, ?_⟩; (try (rw [drewN_self w51]; generalize hq_ : World.drewN w51 _ = w51; have n0_ : Aside0 (w51.heap[gb141]? = some (.cells #[.slice none 0 0, .slice none 0 0, .slice none 0 0, .slice none 0 0] 29 (0, 0))) := ⟨by rw [← hq_]; exact (by (with_reducible repeat (first | refine blk_drewN ?_ _ | refine blk_drew ?_ | refine blk_alloc ?_ _)); exact BK141.out)⟩; have n1_ : Aside0 (Below w.heap.size w w51) := ⟨by rw [← hq_]; exact (by repeat (first | (with_reducible first | exact HB.out | apply below_alloc | apply pw_below_drewN | apply below_drew1 | refine below_set ?_ GE141.out) | exact HB.out))⟩; clear BK141 HB hq_; have BK141 := n0_; have HB := n1_; clear n0_ n1_)); have hcz52_0 : w51.cell? ⟨gb141, 0, none⟩ = some (.slice none 0 0) := (blk_cell BK141.out 0).trans rfl; have hcz52_1 : w51.cell? ⟨gb141, 1, none⟩ = some (.slice none 0 0) := (blk_cell BK141.out 1).trans rfl; have hcz52_2 : w51.cell? ⟨gb141, 2, none⟩ = some (.slice none 0 0) := (blk_cell BK141.out 2).trans rfl; have hcz52_3 : w51.cell? ⟨gb141, 3, none⟩ = some (.slice none 0 0) := (blk_cell BK141.out 3).trans rfl; have hfz52_0 := blk_frozen BK141.out 0; have hfz52_1 := blk_frozen BK141.out 1; have hfz52_2 := blk_frozen BK141.out 2; have hfz52_3 := blk_frozen BK141.out 3))
    refine bodyPost_ret (results_ct rfl _ _ gb141 29 #[.slice none 0 0, .slice none 0 0, .slice none 0 0, .slice none 0 0] (0, 0) _ rfl (by (with_reducible repeat (first | refine blk_drewN ?_ _ | refine blk_drew ?_ | refine blk_alloc ?_ _)); refine blk_put (cs := #[.slice none 0 0, .slice none 0 0, .slice none 0 0, .slice none 0 0]) ?_ 3 _ rfl; (with_reducible repeat (first | refine blk_drewN ?_ _ | refine blk_drew ?_ | refine blk_alloc ?_ _)); refine blk_put (cs := #[.slice none 0 0, .slice none 0 0, .slice none 0 0, .slice none 0 0]) ?_ 2 _ rfl; (with_reducible repeat (first | refine blk_drewN ?_ _ | refine blk_drew ?_ | refine blk_alloc ?_ _)); refine blk_put (cs := #[.slice none 0 0, .slice none 0 0, .slice none 0 0, .slice none 0 0]) ?_ 1 _ rfl; (with_reducible repeat (first | refine blk_drewN ?_ _ | refine blk_drew ?_ | refine blk_alloc ?_ _)); refine blk_put (cs := #[.slice none 0 0, .slice none 0 0, .slice none 0 0, .slice none 0 0]) ?_ 0 _ rfl; (with_reducible repeat (first | refine blk_drewN ?_ _ | refine blk_drew ?_ | refine blk_alloc ?_ _)); exact BK141.out) Tryd.underlying29 rfl (by kernel_rfl)) rfl ?_
    exact ⟨_, _, _, _, by first | rfl | (simp [errW_none, errW_some] <;> rfl) | (simp [*, errW_none, errW_some] <;> rfl), by first | exact Kd.R_nil _ _ _ _ _ | exact Kd.N_nil _ _ _ _ _ | exact Kd.V_nil _ _ _ _ _ | exact Kd.Q_nil _ _ _ _ _ | exact Kd.S_nil _ _ _ _ _, by first | exact Kd.R_nil _ _ _ _ _ | exact Kd.N_nil _ _ _ _ _ | exact Kd.V_nil _ _ _ _ _ | exact Kd.Q_nil _ _ _ _ _ | exact Kd.S_nil _ _ _ _ _, by first | exact Kd.R_nil _ _ _ _ _ | exact Kd.N_nil _ _ _ _ _ | exact Kd.V_nil _ _ _ _ _ | exact Kd.Q_nil _ _ _ _ _ | exact Kd.S_nil _ _ _ _ _, by first | exact Kd.R_nil _ _ _ _ _ | exact Kd.N_nil _ _ _ _ _ | exact Kd.V_nil _ _ _ _ _ | exact Kd.Q_nil _ _ _ _ _ | exact Kd.S_nil _ _ _ _ _, by repeat (first | (with_reducible first | exact HB.out | apply below_alloc | apply pw_below_drewN | apply below_drew1 | refine below_set ?_ GE141.out) | exact HB.out)⟩
end
-- YteileaajmnbmpaaDoorP2
section
attribute [local go_sem] max2_int min2_int max_two min_two max_three min_three max_four min_four
set_option linter.unusedVariables false
set_option linter.unusedSimpArgs false

/-! ### shuttletop_cut: function 5 -/
def shuttletop_cut.f (l0 : List Int) (a1 : Int) : Option (List Int) := (some (([] : List Int) : List Int)).bind fun y105 => (if 0 ≤ (mn (l0.length : Int) a1) then (if (mn (l0.length : Int) a1) ≤ (l0.length : Int) then (if y105.length + (l0.take ((mn (l0.length : Int) a1) : Int).toNat).length < 140737488355328 then (some (y105 ++ (l0.take ((mn (l0.length : Int) a1) : Int).toNat))) else (none)) else (none)) else (none))
set_option maxHeartbeats 8000000 in
set_option maxRecDepth 100000 in
theorem shuttletop_cut.calls (A0 : Option Addr) (c0 : Nat) (l0 : List Int) (a1 : Int) (r : List Int) (w : World) (hr0 : Kd.C (Kd.int .u8) w A0 l0.length l0) (hc0 : l0.length ≤ c0) (h : shuttletop_cut.f l0 a1 = some r) :
    Calls Tryd.prog 5 #[.slice A0 l0.length c0, .int .i64 a1] w fun e w' => ∃ v0_ : Value, e = .returned (v0_) ∧ Kd.R (Kd.int .u8) 5 w' w.heap.size (fun _ => True) v0_ r ∧ Below w.heap.size w w' := by
  have HR0 := Aside0.mk hr0
  have HC0 := Aside0.mk hc0
  clear hr0 hc0
  have HB := Aside0.mk (Below.refl w.heap.size w)
  have H : ((some (([] : List Int) : List Int)).bind fun y105 => (if 0 ≤ (mn (l0.length : Int) a1) then (if (mn (l0.length : Int) a1) ≤ (l0.length : Int) then (if y105.length + (l0.take ((mn (l0.length : Int) a1) : Int).toNat).length < 140737488355328 then (some (y105 ++ (l0.take ((mn (l0.length : Int) a1) : Int).toNat))) else (none)) else (none)) else (none))) = some r := h
  clear h
  obtain ⟨y105, hy105⟩ : ∃ y_ : List Int, y_ = (([] : List Int)) := ⟨_, rfl⟩
  replace H : (if 0 ≤ (mn (l0.length : Int) a1) then (if (mn (l0.length : Int) a1) ≤ (l0.length : Int) then (if y105.length + (l0.take ((mn (l0.length : Int) a1) : Int).toNat).length < 140737488355328 then (some (y105 ++ (l0.take ((mn (l0.length : Int) a1) : Int).toNat))) else (none)) else (none)) else (none)) = some r := by first | (rw [hy105]; with_reducible exact H) | (have H2_ := (Option.bind_some _ _).symm.trans H; rw [hy105]; with_reducible exact H2_) | (have H2_ := (Option.bind_some _ _).symm.trans H; with_reducible exact H2_) | with_reducible exact H | (rw [hy105]; exact H) | exact H
  have Ny105 := Aside0.mk hy105
  clear hy105
  obtain ⟨ji3, hji3⟩ : ∃ j_ : Int, (mn (l0.length : Int) a1) = j_ := ⟨_, rfl⟩
  replace H : (if 0 ≤ (ji3) then (if (ji3) ≤ (l0.length : Int) then (if y105.length + (l0.take ((ji3) : Int).toNat).length < 140737488355328 then (some (y105 ++ (l0.take ((ji3) : Int).toNat))) else (none)) else (none)) else (none)) = some r := by first | (rw [hji3] at H; exact H) | (simp only [hji3] at H ⊢; exact H)
  have hji3_ : (if a1 < (l0.length : Int) then a1 else (l0.length : Int)) = ji3 := hji3
  by_cases c4 : 0 ≤ (ji3)
  · rw [if_pos c4] at H
    have c4b0 := eq_true c4
    have c4b1 : decide (0 ≤ (ji3)) = true := decide_eq_true c4
    clear c4
    by_cases c5 : (ji3) ≤ (l0.length : Int)
    · rw [if_pos c5] at H
      have c5b0 := eq_true c5
      have c5b1 : decide ((ji3) ≤ (l0.length : Int)) = true := decide_eq_true c5
      clear c5
      by_cases c6 : y105.length + (l0.take ((ji3) : Int).toNat).length < 140737488355328
      · rw [if_pos c6] at H
        have LMc6 := Aside0.mk c6
        clear c6
        obtain ⟨y109, hy109⟩ : ∃ y_ : List Int, y_ = (y105 ++ (l0.take ((ji3) : Int).toNat)) := ⟨_, rfl⟩
        replace H : (some y109) = some r := by first | (rw [hy109]; with_reducible exact H) | (have H2_ := (Option.bind_some _ _).symm.trans H; rw [hy109]; with_reducible exact H2_) | (have H2_ := (Option.bind_some _ _).symm.trans H; with_reducible exact H2_) | with_reducible exact H | (rw [hy109]; exact H) | exact H
        have Ny109 := Aside0.mk hy109
        clear hy109
        obtain rfl := Option.some.inj H
        go_enter Tryd.func5, Tryd.ntmps5
        go_wp2_with (first | ((with_reducible refine gate_dst (N := 5) rfl ?_); refine Kd.R_lit (Kd.int .u8) _ 5 ?hg (N := 5) ?hd (xs := ([] : List Int)) (inner := []) (ok := fun _ => True) (okp := fun _ => True) ?hr ?hp (fun _ hk => hk) trivial (Below.refl _ _) (Nat.le_refl _) (by simp) ?_; (case hd => rfl); (case hg => rfl); (case hr => first | (go_simp; done) | (go_simp; rfl)); (case hp => exact (Reps.none _ _)); intro v106 w7 ho8 hb hg_ hnew_; clear hg_ hnew_; (first | rw [← Ny105.out] at ho8 | (simp only [Int.reduceToNat] at ho8; rw [← Ny105.out] at ho8)); have n0_ := Aside0.mk (Kd.R_lower ho8 (below_size (by repeat (first | (with_reducible first | exact HB.out | apply below_alloc | apply pw_below_drewN | apply below_drew1) | exact HB.out)))); have n1_ := Aside0.mk (below_step (by repeat (first | (with_reducible first | exact HB.out | apply below_alloc | apply pw_below_drewN | apply below_drew1) | exact HB.out)) hb); clear HB; have HO107 := n0_; have HB := n1_; clear n0_ n1_; clear hb ho8; obtain ⟨i09, hi09, _, hsz9, _⟩ := info_parts info5; obtain ⟨hcut9, hA9, hC9⟩ := print_take_of (P := Tryd.prog) (Value.int .u8) 0 22 5 .i64 Tryd.underlying22 hi09 hsz9 A0 c0 l0 (ji3) (of_decide_eq_true (by first | (with_reducible assumption) | assumption)) (of_decide_eq_true (by first | (with_reducible assumption) | assumption)) HC0.out; have HR108 := Aside0.mk (Kd.C_of_reads (h1 := fun _ => rfl) (hA9 _ (Kd.reads_of_C HR0.out))); have HC108 := Aside0.mk hC9; clear hA9 hC9 hi09 hsz9) | ((with_reducible refine gate_builtin (b := .append) (xs := #[.tmp 5, .tmp 11]) rfl ?_); at_builtin; refine Kd.R_append_rows (Kd.int .u8) (w0 := w) w.heap.size rfl (.tmp 5) (.tmp 11) 22 5 (.int .u8 0) 1 rfl Tryd.underlying22 info5 rfl (by decide) (by omega) v106 y105 (l0.take ((ji3) : Int).toNat) _ _ _ (fun _ => True) (fun _ => False) rfl rfl ?aO ?aR (fun _ _ h => h) (fun _ h => h.elim) ?aF ?aB ?aS ?aL ?_; (case aR => first | (refine reads_len (show (l0.take ((ji3) : Int).toNat).length = (ji3).toNat from (by rw [List.length_take]; have h_ : ((ji3) : Int) ≤ (l0.length : Int) := of_decide_eq_true (by first | (with_reducible assumption) | assumption); omega)) ?_; repeat (first | exact (Kd.C_below HR108.out HB.out) | (with_reducible refine Kd.C_alloc ?_ _) | (with_reducible refine Kd.C_drewN ?_ _) | (with_reducible refine Kd.C_drew ?_))) | (repeat (first | exact (Kd.C_below HR108.out HB.out) | (with_reducible refine Kd.C_alloc ?_ _) | (with_reducible refine Kd.C_drewN ?_ _) | (with_reducible refine Kd.C_drew ?_)))); (case aB => exact (by repeat (first | (with_reducible first | exact HB.out | apply below_alloc | apply pw_below_drewN | apply below_drew1) | exact HB.out))); (case aF => exact (fun _ _ => trivial)); (case aO => exact (by (with_reducible repeat (first | apply Kd.R_alloc | apply Kd.R_drewN | apply Kd.R_drew)); exact HO107.out)); (case aS => exact (below_size (by repeat (first | (with_reducible first | exact HB.out | apply below_alloc | apply pw_below_drewN | apply below_drew1) | exact HB.out)))); (case aL => have := LMc6.out; have hlx_ := (show (l0.take ((ji3) : Int).toNat).length = (ji3).toNat from (by rw [List.length_take]; have h_ : ((ji3) : Int) ≤ (l0.length : Int) := of_decide_eq_true (by first | (with_reducible assumption) | assumption); omega)); omega); intro v110 w10 ho hb hg hat; rw [← Ny109.out] at ho; have n0_ := Aside0.mk (hb); have n1_ := Aside0.mk (ho); clear HB; clear HO107; have HB := n0_; have HO111 := n1_; clear n0_ n1_; clear ho hb hg hat))
        go_ret
        exact ⟨_, by first | rfl | (simp [errW_none, errW_some] <;> rfl) | (simp only [← hji3]; first | rfl | (simp [errW_none, errW_some] <;> rfl)) | (simp [*, errW_none, errW_some] <;> rfl), by (with_reducible repeat (first | apply Kd.R_alloc | apply Kd.R_drewN | apply Kd.R_drew)); exact HO111.out, by repeat (first | (with_reducible first | exact HB.out | apply below_alloc | apply pw_below_drewN | apply below_drew1) | exact HB.out)⟩
      · rw [if_neg c6] at H
        exact absurd H (by simp)
    · rw [if_neg c5] at H
      exact absurd H (by simp)
  · rw [if_neg c4] at H
    exact absurd H (by simp)
end
end Go.Proofs.YteileaajmnbmpaaDoor.P
namespace Go.Proofs.YteileaajmnbmpaaDoor.P
open Go.RowKit Go.Proofs.YteileaajmnbmpaaDoorW.PrintWords Go.Proofs.YteileaajmnbmpaaDoorW.PrintLast Go.Proofs.YteileaajmnbmpaaDoorW.PrintMore
set_option linter.unusedVariables false
-- YteileaajmnbmpaaDoorPCrc32M
/-- One round of the register. -/
def rr (n : BitVec 32) : BitVec 32 := if n.getLsbD 0 then (n >>> 1) ^^^ 0xEDB88320#32 else n >>> 1
def sp (n : BitVec 32) (c : BitVec 8) : BitVec 32 := it rr 8 (n ^^^ c.setWidth 32)
def spI (n : BitVec 32) (c : Int) : BitVec 32 := sp n (BitVec.ofInt 8 c)
/-- The register behind a text; the sum is its complement. -/
def reg32 (l : List Int) : BitVec 32 := l.foldl spI 0xFFFFFFFF#32
def sum32 (l : List Int) : BitVec 32 := ~~~ (reg32 l)
theorem rr_xor (a b : BitVec 32) : rr (a ^^^ b) = rr a ^^^ rr b := by
  unfold rr
  rw [BitVec.getLsbD_xor, BitVec.ushiftRight_xor_distrib]
  cases ha : a.getLsbD 0 <;> cases hb : b.getLsbD 0 <;> simp
  · ac_rfl
  · ac_rfl
  · generalize a >>> 1 = x
    generalize b >>> 1 = y
    rw [show x ^^^ 3988292384#32 ^^^ (y ^^^ 3988292384#32) = (x ^^^ y) ^^^ (3988292384#32 ^^^ 3988292384#32) by ac_rfl]
    simp
theorem itr_xor (d : Nat) : ∀ a b : BitVec 32, it rr d (a ^^^ b) = it rr d a ^^^ it rr d b := by
  induction d with
  | zero => intro a b; rfl
  | succ d ih => intro a b; rw [it_succ, it_succ, it_succ, rr_xor, ih]
theorem sp_xor (a b : BitVec 32) (c d : BitVec 8) : sp (a ^^^ b) (c ^^^ d) = sp a c ^^^ sp b d := by
  unfold sp
  rw [← itr_xor]
  congr 1
  rw [BitVec.setWidth_xor]
  ac_rfl
theorem rr_z : rr 0 = 0 := by decide
theorem itr_z (d : Nat) : it rr d 0 = 0 := by
  induction d with
  | zero => rfl
  | succ d ih => rw [it_succ, rr_z]; exact ih
-- half a byte by a table
theorem low_free (d : Nat) : ∀ n : BitVec 32, (∀ i, i < d → n.getLsbD i = false) → it rr d n = n >>> d := by
  induction d with
  | zero => intro n _; show n = _; rw [BitVec.ushiftRight_zero]
  | succ d ih =>
    intro n h
    have h0 := h 0 (by omega)
    have e : rr n = n >>> 1 := by unfold rr; rw [h0]; rfl
    rw [it_succ, e, ih]
    · rw [← BitVec.shiftRight_add]; congr 1; omega
    · intro i hi
      rw [BitVec.getLsbD_ushiftRight]
      rw [Nat.add_comm]; exact h (i + 1) (by omega)
theorem half (n : BitVec 32) : it rr 4 n = (n >>> 4) ^^^ it rr 4 (n &&& 15#32) := by
  have e : n = (n &&& ~~~ 15#32) ^^^ (n &&& 15#32) := by
    apply BitVec.eq_of_getLsbD_eq
    intro i hi
    rw [BitVec.getLsbD_xor, BitVec.getLsbD_and, BitVec.getLsbD_and, BitVec.getLsbD_not]
    cases n.getLsbD i <;> cases (15#32).getLsbD i <;> simp [hi]
  have z : ∀ i, i < 4 → (n &&& ~~~ 15#32).getLsbD i = false := by
    intro i hi
    rw [BitVec.getLsbD_and]
    have : (~~~ 15#32).getLsbD i = false := by
      obtain rfl | rfl | rfl | rfl : i = 0 ∨ i = 1 ∨ i = 2 ∨ i = 3 := by omega
      all_goals decide
    rw [this, Bool.and_false]
  conv => lhs; rw [e, itr_xor, low_free 4 _ z]
  congr 1
  apply BitVec.eq_of_getLsbD_eq
  intro i hi
  rw [BitVec.getLsbD_ushiftRight, BitVec.getLsbD_ushiftRight, BitVec.getLsbD_and]
  by_cases h : 4 + i < 32
  · have : (~~~ 15#32).getLsbD (4 + i) = true := by
      have all : ∀ j : Fin 28, (~~~ 15#32).getLsbD (4 + j.val) = true := by decide +kernel
      exact all ⟨i, by omega⟩
    rw [this, Bool.and_true]
  · rw [BitVec.getLsbD_of_ge _ _ (by omega), Bool.false_and]
-- bit by bit
def bt (b : Bool) : BitVec 32 := if b then 1#32 else 0#32
def r1 (n : BitVec 32) (b : Bool) : BitVec 32 := rr (n ^^^ bt b)
theorem bt_xor (a b : Bool) : bt (a ^^ b) = bt a ^^^ bt b := by cases a <;> cases b <;> decide
theorem r1_xor (a b : BitVec 32) (x y : Bool) : r1 (a ^^^ b) (x ^^ y) = r1 a x ^^^ r1 b y := by
  unfold r1
  rw [← rr_xor, bt_xor]
  congr 1; ac_rfl
def bits8 (c : BitVec 8) : List Bool := [c.getLsbD 0, c.getLsbD 1, c.getLsbD 2, c.getLsbD 3, c.getLsbD 4, c.getLsbD 5, c.getLsbD 6, c.getLsbD 7]
theorem byte_bits (n : BitVec 32) (c : BitVec 8) : (bits8 c).foldl r1 n = sp n c := by
  have h0 : ∀ c : BitVec 8, (bits8 c).foldl r1 0#32 = sp 0#32 c := by decide +kernel
  have lin : ∀ (l : List Bool) (a b : BitVec 32), l.foldl r1 (a ^^^ b) = it rr l.length a ^^^ l.foldl r1 b := by
    intro l
    induction l with
    | nil => intro a b; rfl
    | cons x l ih =>
      intro a b
      have : r1 (a ^^^ b) x = rr a ^^^ r1 b x := by
        have := r1_xor a b false x
        rw [Bool.false_xor] at this
        rw [this]; congr 1; unfold r1 bt; simp
      rw [List.foldl_cons, List.foldl_cons, this, ih, List.length_cons, it_succ]
  have := lin (bits8 c) n 0#32
  rw [BitVec.xor_zero] at this
  rw [this, h0]
  unfold sp
  rw [BitVec.zero_xor, show (bits8 c).length = 8 from rfl, ← itr_xor]
-- turned back
theorem rr_zero {z : BitVec 32} (h : rr z = 0) : z = 0 := by
  unfold rr at h
  by_cases c : z.getLsbD 0 = true
  · rw [if_pos c] at h
    have h2 : z >>> 1 = 0xEDB88320#32 := by
      have e : (z >>> 1 ^^^ 0xEDB88320#32) ^^^ 0xEDB88320#32 = 0 ^^^ 0xEDB88320#32 := by rw [h]
      rw [BitVec.xor_assoc, BitVec.xor_self, BitVec.xor_zero] at e
      rw [e]; decide
    have h3 := congrArg BitVec.toNat h2
    rw [BitVec.toNat_ushiftRight, Nat.shiftRight_eq_div_pow] at h3
    have : (0xEDB88320#32).toNat = 3988292384 := rfl
    have := z.isLt
    omega
  · rw [if_neg c] at h
    have h3 := congrArg BitVec.toNat h
    rw [BitVec.toNat_ushiftRight, Nat.shiftRight_eq_div_pow] at h3
    have h0 : (0 : BitVec 32).toNat = 0 := rfl
    apply BitVec.eq_of_toNat_eq
    have : z.toNat.testBit 0 = false := by simpa [BitVec.getLsbD] using c
    rw [Nat.testBit_zero] at this
    have : z.toNat % 2 ≠ 1 := by simpa using this
    omega
theorem itr_zero (d : Nat) : ∀ {z : BitVec 32}, it rr d z = 0 → z = 0 := by
  induction d with
  | zero => intro z h; exact h
  | succ d ih => intro z h; rw [it_succ] at h; exact rr_zero (ih h)
theorem fold_lin (t : List Int) : ∀ n d : BitVec 32, t.foldl spI (n ^^^ d) = t.foldl spI n ^^^ it rr (8 * t.length) d := by
  induction t with
  | nil => intro n d; rfl
  | cons c t ih =>
    intro n d
    rw [List.foldl_cons, List.foldl_cons, List.length_cons, show 8 * (t.length + 1) = 8 + 8 * t.length by omega, it_add]
    have : spI (n ^^^ d) c = spI n c ^^^ it rr 8 d := by
      have h := sp_xor n d (BitVec.ofInt 8 c) 0#8
      rw [BitVec.xor_zero] at h
      unfold spI
      rw [h]
      unfold sp
      congr 2
      rw [show BitVec.setWidth 32 0#8 = 0#32 from by decide, BitVec.xor_zero]
    rw [this, ih]
end Go.Proofs.YteileaajmnbmpaaDoor.P
namespace Go.Proofs.YteileaajmnbmpaaDoor.P
open Go Go.RowKit Go.Proofs.YteileaajmnbmpaaDoorW.PrintWords Go.Proofs.YteileaajmnbmpaaDoorW.PrintLast Go.Proofs.YteileaajmnbmpaaDoorW.PrintMore
set_option linter.unusedVariables false
-- YteileaajmnbmpaaDoorPCrcW
def tabAt (i : Nat) : Int := ((it rr 4 (BitVec.ofNat 32 i)).toNat : Int)
def tabTo (n : Nat) : List Int := (List.range 16).map fun j => if j < n then tabAt j else 0
def tabV (n : Nat) : Array Value := (nums .u32 (tabTo n)).toArray
theorem tabV_get (n j : Nat) (hj : j < 16) : (tabV n)[j]? = some (.int .u32 (if j < n then tabAt j else 0)) := by
  unfold tabV tabTo nums
  rw [List.getElem?_toArray, List.getElem?_map, List.getElem?_map, List.getElem?_range hj]; rfl
theorem tabV_set (n : Nat) (h : n < 16) : (tabV n).setIfInBounds n (.int .u32 (tabAt n)) = tabV (n + 1) := by
  apply Array.ext_getElem?
  intro j
  by_cases hj : j < 16
  · rw [Array.getElem?_setIfInBounds]
    by_cases e : n = j
    · subst e
      rw [if_pos rfl, if_pos (by show n < (nums .u32 (tabTo n)).toArray.size; simp [nums, tabTo, h]), tabV_get _ _ hj, if_pos (by omega)]
    · rw [if_neg e, tabV_get _ _ hj, tabV_get _ _ hj]
      by_cases c : j < n
      · rw [if_pos c, if_pos (by omega)]
      · rw [if_neg c, if_neg (by omega)]
  · rw [Array.getElem?_eq_none (by simp [tabV, nums, tabTo]; omega), Array.getElem?_eq_none (by simp [tabV, nums, tabTo]; omega)]
theorem tabV_size : ∀ n, (tabV n).size = 16 := by intro n; simp [tabV, nums, tabTo]
theorem tabV_one (n : Nat) : (tabV n).all (·.oneCell') = true := by
  rw [Array.all_eq_true]
  intro j hj
  simp [tabV, nums, Value.oneCell']
theorem bit0_mod (n : BitVec 32) : n.getLsbD 0 = decide (n.toNat % 2 = 1) := by
  rw [BitVec.getLsbD, Nat.testBit_zero]
theorem rr_go (n : BitVec 32) : Go.bits .xor .u32 ((n.toNat : Int) / 2) (Go.bits .and .u32 3988292384 (-Go.bits .and .u32 (n.toNat : Int) 1 % 4294967296)) = ((rr n).toNat : Int) := by
  have hn := n.isLt
  have e1 : Go.bits .and .u32 (n.toNat : Int) 1 = ((n.toNat % 2 : Nat) : Int) := by
    rw [show (1 : Int) = ((1 : Nat) : Int) from rfl, Go.u32_and_nat _ 1 (by omega) (by decide), Go.nat_mask1]
  have e2 : (n.toNat : Int) / (2 : Int) = ((n >>> 1).toNat : Int) := by rw [BitVec.toNat_ushiftRight, Nat.shiftRight_eq_div_pow]; omega
  rw [e1, e2]
  unfold rr
  by_cases c : n.toNat % 2 = 1
  · rw [bit0_mod, decide_eq_true c, if_pos rfl, c]
    have e3 : Go.bits .and .u32 3988292384 (-((1 : Nat) : Int) % 4294967296) = ((0xEDB88320#32).toNat : Int) := by decide +kernel
    rw [e3, Go.u32_xor_nat _ _ (by have := (n >>> 1).isLt; omega) (by decide), BitVec.toNat_xor]
  · rw [bit0_mod, decide_eq_false c, if_neg (by decide), show n.toNat % 2 = 0 by omega]
    have e3 : Go.bits .and .u32 3988292384 (-((0 : Nat) : Int) % 4294967296) = ((0 : Nat) : Int) := by decide +kernel
    rw [e3, Go.u32_xor_nat _ _ (by have := (n >>> 1).isLt; omega) (by decide), Nat.xor_zero]
theorem crc_table_size : (Tryd.prog.info? 76).map (·.size) = some 16 := by kernel_rfl
set_option maxRecDepth 100000 in
set_option maxHeartbeats 4000000 in
theorem crc32_build_calls (w : World) : Calls Tryd.prog 35 #[] w fun e w' => e = .returned (.agg (tabV 16)) ∧ Below w.heap.size w w' := by
  go_enter Tryd.func35, Tryd.ntmps35
  go_wp2
  have hu49 := Tryd.underlying76
  have k0 := blk_alloc (blk_new w (.cells #[.int .u32 0, .int .u32 0, .int .u32 0, .int .u32 0, .int .u32 0, .int .u32 0, .int .u32 0, .int .u32 0, .int .u32 0, .int .u32 0, .int .u32 0, .int .u32 0, .int .u32 0, .int .u32 0, .int .u32 0, .int .u32 0] 76)) (.cells #[.int .u32 0, .int .u32 0, .int .u32 0, .int .u32 0, .int .u32 0, .int .u32 0, .int .u32 0, .int .u32 0, .int .u32 0, .int .u32 0, .int .u32 0, .int .u32 0, .int .u32 0, .int .u32 0, .int .u32 0, .int .u32 0] 76)
  have k1 := blk_new (w.alloc (.cells #[.int .u32 0, .int .u32 0, .int .u32 0, .int .u32 0, .int .u32 0, .int .u32 0, .int .u32 0, .int .u32 0, .int .u32 0, .int .u32 0, .int .u32 0, .int .u32 0, .int .u32 0, .int .u32 0, .int .u32 0, .int .u32 0] 76)) (.cells #[.int .u32 0, .int .u32 0, .int .u32 0, .int .u32 0, .int .u32 0, .int .u32 0, .int .u32 0, .int .u32 0, .int .u32 0, .int .u32 0, .int .u32 0, .int .u32 0, .int .u32 0, .int .u32 0, .int .u32 0, .int .u32 0] 76)
  have hB := below_alloc (below_alloc (Below.refl w.heap.size w) (.cells #[.int .u32 0, .int .u32 0, .int .u32 0, .int .u32 0, .int .u32 0, .int .u32 0, .int .u32 0, .int .u32 0, .int .u32 0, .int .u32 0, .int .u32 0, .int .u32 0, .int .u32 0, .int .u32 0, .int .u32 0, .int .u32 0] 76)) (.cells #[.int .u32 0, .int .u32 0, .int .u32 0, .int .u32 0, .int .u32 0, .int .u32 0, .int .u32 0, .int .u32 0, .int .u32 0, .int .u32 0, .int .u32 0, .int .u32 0, .int .u32 0, .int .u32 0, .int .u32 0, .int .u32 0] 76)
  rw [World.size_alloc] at k1
  have K0 := Aside0.mk k0
  have K1 := Aside0.mk k1
  have HB := Aside0.mk hB
  clear k0 k1 hB
  go_loopw [4] (fun v4 wr => ∃ i : Nat, i ≤ 16 ∧ v4 = .int .i64 (i : Int) ∧ Aside0 (wr.heap[w.heap.size]? = some (.cells (tabV 0) 76 (0, 0))) ∧ Aside0 (wr.heap[w.heap.size + 1]? = some (.cells (tabV i) 76 (0, 0))) ∧ Aside0 (Below w.heap.size w wr)) (fun v4 _ => 16 - (intOf v4).toNat)
  case atStart => exact ⟨0, by omega, rfl, K0, K1, HB⟩
  case round =>
    clear K0 K1 HB
    obtain ⟨i, hi, rfl, K0, K1, HB⟩ := hrel
    by_cases h16 : i < 16
    · have hlt : (i : Int) < 16 := by omega
      have e32 : IntKind.u32.wrap (i : Int) = ((BitVec.ofNat 32 i).toNat : Int) := by rw [IntKind.wrap_u32, BitVec.toNat_ofNat]; omega
      go_wp2
      go_loopw [3, 9] (fun v3 v9 wr2 => ∃ q : Nat, q ≤ 4 ∧ v3 = .int .u32 ((it rr q (BitVec.ofNat 32 i)).toNat : Int) ∧ v9 = .int .i64 (q : Int) ∧ wr2 = wr) (fun _ v9 _ => 4 - (intOf v9).toNat)
      case atStart => exact ⟨0, by omega, by (show _ = Value.int IntKind.u32 ((BitVec.ofNat 32 i).toNat : Int); rw [← e32, IntKind.wrap_u32]), rfl, by first | rfl | trivial⟩
      case round =>
        obtain ⟨q, hq, rfl, rfl, rfl⟩ := hrel
        by_cases h4 : q < 4
        · have hlt4 : (q : Int) < 4 := by omega
          go_wp2
          go_roundw
          case rel =>
            refine ⟨q + 1, by omega, ?_, by simp, by first | rfl | trivial⟩
            rw [rr_go, it_last rr q]
          case measure => simp [intOf]; omega
        · obtain rfl : q = 4 := by omega
          have hx := (blk_cell K1.out i).trans (tabV_get i i h16)
          have hf := blk_frozen K1.out i
          go_wp2
          refine ⟨⟨i + 1, by omega, by simp, ⟨blk_far K0.out (by simp) _⟩, ⟨blk_put K1.out i _ (tabV_set i h16)⟩, ⟨HB.out.setCell (p := ⟨w.heap.size + 1, i, none⟩) (by simp) _⟩⟩, by simp [intOf]; omega⟩
    · obtain rfl : i = 16 := by omega
      go_wp2_with (first | (refine wpList_load_row rfl 76 (.tmp 1) rfl (w.heap.size + 1) rfl 76 (tabV 16) (0, 0) _ K1.out hu49 rfl (crc_table_size.trans (by rw [tabV_size])) ?_) | (refine wpList_store_row rfl 76 (.tmp 0) (.tmp 23) rfl w.heap.size (tabV 16) rfl rfl 76 _ K0.out (crc_table_size.trans (by rw [tabV_size])) (by rw [tabV_size, tabV_size]) (tabV_one 16) ?_))
      refine bodyPost_ret (results_cell_row rfl _ _ w.heap.size 76 (tabV 16) (0, 0) _ rfl (setRow_heap _ _ _ _ _ _ K0.out) hu49 rfl (crc_table_size.trans (by rw [tabV_size]))) rfl ?_
      exact ⟨rfl, below_setRow HB.out (Nat.le_refl _) _⟩
theorem low4 (n : BitVec 32) : n &&& 15#32 = BitVec.ofNat 32 (n.toNat % 16) := by
  apply BitVec.eq_of_toNat_eq
  rw [BitVec.toNat_and, show (15#32).toNat = 2 ^ 4 - 1 from rfl, Nat.and_two_pow_sub_one_eq_mod, BitVec.toNat_ofNat]
  omega
theorem half_go (n : BitVec 32) : Go.bits .xor .u32 ((n.toNat : Int) / 16) (tabAt (n.toNat % 16)) = ((it rr 4 n).toNat : Int) := by
  have e2 : (n.toNat : Int) / (16 : Int) = ((n >>> 4).toNat : Int) := by rw [BitVec.toNat_ushiftRight, Nat.shiftRight_eq_div_pow]; omega
  rw [e2, half n, low4]
  unfold tabAt
  rw [Go.u32_xor_nat _ _ (by have := (n >>> 4).isLt; omega) (by have := (it rr 4 (BitVec.ofNat 32 (n.toNat % 16))).isLt; omega), BitVec.toNat_xor]
theorem not_go (n : BitVec 32) : Go.bits .xor .u32 IntKind.u32.max (n.toNat : Int) = ((~~~ n).toNat : Int) := by
  rw [show IntKind.u32.max = (((BitVec.allOnes 32).toNat : Nat) : Int) from by decide +kernel, Go.u32_xor_nat _ _ (by have := (BitVec.allOnes 32).isLt; omega) (by have := n.isLt; omega), ← BitVec.toNat_xor, BitVec.allOnes_xor]
theorem byte_go (n : BitVec 32) (c : Int) (hc : 0 ≤ c ∧ c ≤ 255) : Go.bits .xor .u32 (n.toNat : Int) c = ((n ^^^ (BitVec.ofInt 8 c).setWidth 32).toNat : Int) := by
  obtain ⟨m, rfl⟩ := Int.eq_ofNat_of_zero_le hc.1
  rw [Go.u32_xor_nat _ _ (by have := n.isLt; omega) (by omega), BitVec.toNat_xor, BitVec.toNat_setWidth, BitVec.ofInt_natCast, BitVec.toNat_ofNat]
  congr 3; omega
set_option maxRecDepth 100000 in
set_option maxHeartbeats 4000000 in
theorem crc32_Sum_walk (A0 : Option Addr) (c0 : Nat) (l0 : List Int) (w : World) (hr0 : Kd.C (Kd.int .u8) w A0 l0.length l0) (hc0 : l0.length ≤ c0) (hw : ∀ x ∈ l0, 0 ≤ x ∧ x ≤ 255) (hl : l0.length ≤ 100000) :
    Calls Tryd.prog 22 #[.slice A0 l0.length c0] w fun e w' => e = .returned (.int .u32 ((sum32 l0).toNat : Int)) ∧ Below w.heap.size w w' := by
  have hu49 := Tryd.underlying76
  replace hr0 := Aside0.mk hr0
  go_enter Tryd.func22, Tryd.ntmps22
  go_wp2_with (first | (go_at_call 35; refine (crc32_build_calls _).mono ?_; rintro e w1 ⟨rfl, HB0⟩; have HB := Aside0.mk HB0; clear HB0) | ((with_reducible refine gate_dst (N := 3) rfl ?_); refine box_event ?hg (N := 3) ?hd (cs := #[.int .u32 0, .int .u32 0, .int .u32 0, .int .u32 0, .int .u32 0, .int .u32 0, .int .u32 0, .int .u32 0, .int .u32 0, .int .u32 0, .int .u32 0, .int .u32 0, .int .u32 0, .int .u32 0, .int .u32 0, .int .u32 0]) (t := 76) ?hr ?_; (case hd => rfl); (case hg => rfl); (case hr => first | (go_simp; done) | (go_simp; rfl)); intro g hge w2 hbox0 hb0; have hbox := Aside0.mk hbox0; have HB1 := Aside0.mk (below_step HB.out hb0); have hgl := Aside0.mk (show w.heap.size ≤ g by rw [hge]; exact HB.out.size); clear HB hbox0 hb0 hge) | (refine wpList_store_row rfl 76 (.tmp 3) (.tmp 7) rfl g (tabV 16) rfl rfl 76 _ hbox.out (crc_table_size.trans (by rw [tabV_size])) (by rw [tabV_size]; rfl) (tabV_one 16) ?_; have BK := Aside0.mk (setRow_heap w2 g _ (tabV 16) _ _ hbox.out); have HB2 := Aside0.mk (below_setRow HB1.out hgl.out (tabV 16)); clear hbox HB1; obtain ⟨w3, hw3⟩ : ∃ w3, w2.setRow g (tabV 16) = w3 := ⟨_, rfl⟩; rw [hw3] at BK HB2 ⊢; clear hw3))
  go_loopw [4, 10] (fun v4 v10 wr => ∃ i : Nat, i ≤ l0.length ∧ v4 = .int .u32 (((l0.take i).foldl spI 0xFFFFFFFF#32).toNat : Int) ∧ v10 = .int .i64 (i : Int) ∧ wr = w3) (fun _ v10 _ => l0.length - (intOf v10).toNat)
  case atStart => exact ⟨0, by omega, rfl, rfl, by first | rfl | trivial⟩
  case round =>
    obtain ⟨i, hi, rfl, rfl, rfl⟩ := hrel
    by_cases hlt : i < l0.length
    · have hlt' : (i : Int) < (l0.length : Int) := by omega
      obtain ⟨ad, hA, hcs⟩ := (Kd.C_below hr0.out HB2.out).2.2 (by omega)
      subst hA
      have hx : wr.cell? (ad.add i) = some (.int .u8 l0[i]) := by
        obtain ⟨c, h1, h2, h3⟩ := hcs i _ (List.getElem?_eq_getElem hlt)
        have h2' : c = [Value.int .u8 l0[i]] := h2
        subst h2'
        have h4 := h3 0 _ rfl
        simpa [Kd.int, Kd.scalar] using h4
      clear hcs
      have hc := hw l0[i] (List.getElem_mem hlt)
      have e0 : (l0.take (i + 1)).foldl spI 0xFFFFFFFF#32 = spI ((l0.take i).foldl spI 0xFFFFFFFF#32) l0[i] := by
        rw [take_snoc l0 i hlt, List.foldl_append]; rfl
      have e1 := byte_go ((l0.take i).foldl spI 0xFFFFFFFF#32) l0[i] hc
      have e3 : spI ((l0.take i).foldl spI 0xFFFFFFFF#32) l0[i] = it rr 4 (it rr 4 (((l0.take i).foldl spI 0xFFFFFFFF#32) ^^^ (BitVec.ofInt 8 l0[i]).setWidth 32)) := by
        unfold spI sp; rw [show (8 : Nat) = 4 + 4 from rfl, it_add]
      generalize (l0.take i).foldl spI 0xFFFFFFFF#32 = n at e0 e1 e3 ⊢
      generalize n ^^^ (BitVec.ofInt 8 l0[i]).setWidth 32 = m at e1 e3
      have g1 := half_go m
      obtain ⟨j, hj⟩ : ∃ j, m.toNat % 16 = j := ⟨_, rfl⟩
      have hj16 : j < 16 := by omega
      have hj' : (m.toNat : Int) % 16 = (j : Int) := by omega
      have hj0 : (0 : Int) ≤ (j : Int) := by omega
      have hj1 : (j : Int) < 16 := by omega
      have hy := (blk_cell BK.out j).trans (tabV_get 16 j hj16)
      rw [if_pos hj16] at hy
      rw [hj] at g1
      have g2 := half_go (it rr 4 m)
      generalize it rr 4 m = m2 at e3 g1 g2
      obtain ⟨j2, hj2⟩ : ∃ j, m2.toNat % 16 = j := ⟨_, rfl⟩
      have hj216 : j2 < 16 := by omega
      have hj2' : (m2.toNat : Int) % 16 = (j2 : Int) := by omega
      have hj20 : (0 : Int) ≤ (j2 : Int) := by omega
      have hj21 : (j2 : Int) < 16 := by omega
      have hy2 := (blk_cell BK.out j2).trans (tabV_get 16 j2 hj216)
      rw [if_pos hj216] at hy2
      rw [hj2] at g2
      go_wp2
      exact ⟨⟨i + 1, by omega, by rw [e0, e3], by simp, by first | rfl | trivial⟩, by simp [intOf]; omega⟩
    · obtain rfl : i = l0.length := by omega
      go_wp2
      go_ret
      refine ⟨?_, HB2.out⟩
      rw [not_go]
      unfold sum32 reg32
      simp
end Go.Proofs.YteileaajmnbmpaaDoor.P
namespace Go.Proofs.YteileaajmnbmpaaDoor.P
open Go.RowKit Go.Proofs.YteileaajmnbmpaaDoorW.PrintWords Go.Proofs.YteileaajmnbmpaaDoorW.PrintLast Go.Proofs.YteileaajmnbmpaaDoorW.PrintMore
-- YteileaajmnbmpaaDoorP21
section
attribute [local go_sem] max2_int min2_int max_two min_two max_three min_three max_four min_four
set_option linter.unusedVariables false
set_option linter.unusedSimpArgs false

/-! ### crc32_Sum: function 22 -/
def crc32_Sum.f (l0 : List Int) : Option Int := if l0.all (fun x => decide (0 ≤ x ∧ x ≤ 255)) = true ∧ l0.length ≤ 100000 then some ((sum32 l0).toNat : Int) else none
theorem crc32_Sum.calls (A0 : Option Addr) (c0 : Nat) (l0 : List Int) (r : Int) (w : World) (hr0 : Kd.C (Kd.int .u8) w A0 l0.length l0) (hc0 : l0.length ≤ c0) (h : crc32_Sum.f l0 = some r) :
    Calls Tryd.prog 22 #[.slice A0 l0.length c0] w fun e w' => e = .returned (.int .u32 r) ∧ Below w.heap.size w w' := by
  unfold crc32_Sum.f at h
  by_cases hg : l0.all (fun x => decide (0 ≤ x ∧ x ≤ 255)) = true ∧ l0.length ≤ 100000
  · rw [if_pos hg] at h
    cases h
    exact crc32_Sum_walk A0 c0 l0 w hr0 hc0 (fun x hx => of_decide_eq_true (List.all_eq_true.1 hg.1 x hx)) hg.2
  · rw [if_neg hg] at h; cases h
end
-- YteileaajmnbmpaaDoorP22
section
attribute [local go_sem] max2_int min2_int max_two min_two max_three min_three max_four min_four
set_option linter.unusedVariables false
set_option linter.unusedSimpArgs false

/-! ### shuttletop_stands: function 9 -/
def shuttletop_stands.f : Option Bool := (crc32_Sum.f ([49, 50, 51, 52, 53, 54, 55, 56, 57] : List Int)).bind fun t => some (t == 3421780262)
set_option maxHeartbeats 8000000 in
set_option maxRecDepth 100000 in
theorem shuttletop_stands.calls (r : Bool) (w : World) (h : shuttletop_stands.f = some r) :
    Calls Tryd.prog 9 #[] w fun e w' => e = .returned (.bool r) ∧ Below w.heap.size w w' := by
  obtain ⟨t, A1, H⟩ := Option.bind_eq_some_iff.mp h
  have hr := Option.some.inj H
  have A := Aside0.mk A1
  have HR := Aside0.mk (const_reads w 5 .u8 [49, 50, 51, 52, 53, 54, 55, 56, 57] #[.int .u8 49, .int .u8 50, .int .u8 51, .int .u8 52, .int .u8 53, .int .u8 54, .int .u8 55, .int .u8 56, .int .u8 57] (9, 10) rfl (by decide))
  have HB := Aside0.mk (below_alloc (Below.refl w.heap.size w) (.cells #[.int .u8 49, .int .u8 50, .int .u8 51, .int .u8 52, .int .u8 53, .int .u8 54, .int .u8 55, .int .u8 56, .int .u8 57] 5 (9, 10)))
  subst hr
  clear h A1 H
  have kc := fun (w : World) (C : Array Value) (n c : Nat) => Lib.run_convert_bytes_const (P := Tryd.prog) w 22 5 C n c Tryd.underlying22 Tryd.underlying5
  go_enter Tryd.func9, Tryd.ntmps9
  go_wp2_with ((with_reducible refine gate_callee (f := 22) rfl ?_); refine goesL_ (some 3) rfl rfl Tryd.func22 (by kernel_rfl) rfl #[.slice (some ⟨w.heap.size, 0, none⟩) 9 9] rfl (by (try simp only [List.map_toArray, List.map_cons, List.map_nil]); first | done | rfl) ?_; refine (crc32_Sum.calls _ _ [49, 50, 51, 52, 53, 54, 55, 56, 57] t _ ?side1 ?side2 A.out).mono ?_; (case side1 => exact HR.out); (case side2 => exact Nat.le_refl _); rintro e w' ⟨rfl, hb⟩; refine ⟨_, rfl, ?_⟩)
  go_ret
  exact ⟨rfl, below_step HB.out hb⟩
end
-- YteileaajmnbmpaaDoorP39
section
attribute [local go_sem] max2_int min2_int max_two min_two max_three min_three max_four min_four
set_option linter.unusedVariables false
set_option linter.unusedSimpArgs false

/-! ### slices_Clone_byte_byte: function 23 -/
def slices_Clone_byte_byte.f (l0 : List Int) : Option (List Int) := if l0.length < 140737488355328 then some l0 else none
set_option maxHeartbeats 8000000 in
set_option maxRecDepth 100000 in
theorem slices_Clone_byte_byte.calls (A0 : Option Addr) (c0 : Nat) (l0 : List Int) (r : List Int) (w : World) (hr0 : Kd.C (Kd.int .u8) w A0 l0.length l0) (hc0 : l0.length ≤ c0) (h : slices_Clone_byte_byte.f l0 = some r) :
    Calls Tryd.prog 23 #[.slice A0 l0.length c0] w fun e w' => ∃ v0_ : Value, e = .returned (v0_) ∧ Kd.R (Kd.int .u8) 5 w' w.heap.size (fun _ => True) v0_ r ∧ Below w.heap.size w w' := by
  have HR0 := Aside0.mk hr0
  have HC0 := Aside0.mk hc0
  have HB := Aside0.mk (Below.refl w.heap.size w)
  unfold slices_Clone_byte_byte.f at h
  by_cases c3 : l0.length < 140737488355328
  · rw [if_pos c3] at h
    obtain rfl := Option.some.inj h
    clear h
    cases A0 with
    | none =>
      have hl : l0 = [] := nil_of_none hr0
      subst hl
      have heq := fun wx => Lib.run_eql_slice_nil (P := Tryd.prog) wx 22 5 none 0 c0 0 0 Tryd.underlying22
      clear hr0 hc0
      go_enter Tryd.func23, Tryd.ntmps23
      go_wp2
      go_ret
      exact ⟨_, rfl, Kd.R_nil _ _ _ _ _, HB.out⟩
    | some a =>
      obtain ⟨y1, hy1⟩ : ∃ y_ : List Int, y_ = (([] : List Int)) := ⟨_, rfl⟩
      have Ny1 := Aside0.mk hy1
      have hr : l0 = y1 ++ l0 := by rw [hy1]; rfl
      have Nr := Aside0.mk hr
      have LM := Aside0.mk c3
      have hlen : y1.length = 0 := by rw [hy1]; rfl
      have NL := Aside0.mk hlen
      have heq := fun wx => Lib.run_eql_slice_nil (P := Tryd.prog) wx 22 5 (some a) l0.length c0 0 0 Tryd.underlying22
      clear hr0 hc0 hy1 hr c3 hlen
      go_enter Tryd.func23, Tryd.ntmps23
      go_wp2_with (first | ((with_reducible refine gate_dst (N := 5) rfl ?_); refine Kd.R_lit (Kd.int .u8) _ 5 ?hg (N := 5) ?hd (xs := ([] : List Int)) (inner := []) (ok := fun _ => True) (okp := fun _ => True) ?hr ?hp (fun _ hk => hk) trivial (Below.refl _ _) (Nat.le_refl _) (by simp) ?_; (case hd => rfl); (case hg => rfl); (case hr => first | (go_simp; done) | (go_simp; rfl)); (case hp => exact (Reps.none _ _)); intro v1 w5 ho6 hb hg_ hnew_; clear hg_ hnew_; rw [← Ny1.out] at ho6; have n0_ := Aside0.mk (Kd.R_lower ho6 (below_size (by repeat (first | (with_reducible first | exact HB.out | apply below_alloc | apply pw_below_drewN | apply below_drew1) | exact HB.out)))); have n1_ := Aside0.mk (below_step (by repeat (first | (with_reducible first | exact HB.out | apply below_alloc | apply pw_below_drewN | apply below_drew1) | exact HB.out)) hb); clear HB; have HO1 := n0_; have HB := n1_; clear n0_ n1_; clear hb ho6) | ((with_reducible refine gate_builtin (b := .append) (xs := #[.tmp 5, .tmp 6]) rfl ?_); at_builtin; refine Kd.R_append_rows (Kd.int .u8) (w0 := w) w.heap.size rfl (.tmp 5) (.tmp 6) 22 5 (.int .u8 0) 1 rfl Tryd.underlying22 info5 rfl (by decide) (by omega) v1 y1 l0 _ _ _ (fun _ => True) (fun _ => False) rfl rfl ?aO ?aR (fun _ _ h => h) (fun _ h => h.elim) ?aF ?aB ?aS ?aL ?_; (case aR => repeat (first | exact (Kd.C_below HR0.out HB.out) | (with_reducible refine Kd.C_alloc ?_ _) | (with_reducible refine Kd.C_drewN ?_ _) | (with_reducible refine Kd.C_drew ?_))); (case aB => exact (by repeat (first | (with_reducible first | exact HB.out | apply below_alloc | apply pw_below_drewN | apply below_drew1) | exact HB.out))); (case aF => exact (fun _ _ => trivial)); (case aO => exact (by (with_reducible repeat (first | apply Kd.R_alloc | apply Kd.R_drewN | apply Kd.R_drew)); exact HO1.out)); (case aS => exact (below_size (by repeat (first | (with_reducible first | exact HB.out | apply below_alloc | apply pw_below_drewN | apply below_drew1) | exact HB.out)))); (case aL => have := LM.out; have := NL.out; omega); intro v114 w7 ho hb hg hat; rw [← Nr.out] at ho; have n0_ := Aside0.mk (hb); have n1_ := Aside0.mk (ho); clear HB; clear HO1; have HB := n0_; have HO115 := n1_; clear n0_ n1_; clear ho hb hg hat))
      go_ret
      exact ⟨_, rfl, HO115.out, HB.out⟩
  · rw [if_neg c3] at h
    exact absurd h (by simp)
end
-- YteileaajmnbmpaaDoorP40
section
attribute [local go_sem] max2_int min2_int max_two min_two max_three min_three max_four min_four
set_option linter.unusedVariables false
set_option linter.unusedSimpArgs false

/-! ### bits_Turn: function 11 -/
def bits_Turn.l0 : Nat → List Int → List Int → Int → Int → Option (List Int)
  | 0, _, _, _, _ => none
  | k + 1, x5, x10, x11, x12 => if x12 < x11 then (if 0 ≤ x12 then (if x12 < (x10.length : Int) then (if (rd x10 x12) ≥ 0 then (if (rd x10 x12) < (x5.length : Int) then (if 0 ≤ (rd x10 x12) then (bits_Turn.l0 k (x5.set ((rd x10 x12) : Int).toNat (Go.bits .xor .u8 (rd x5 (rd x10 x12)) 1)) x10 x11 (wrap64 (x12 + 1))) else (none)) else (bits_Turn.l0 k x5 x10 x11 (wrap64 (x12 + 1)))) else (bits_Turn.l0 k x5 x10 x11 (wrap64 (x12 + 1)))) else (none)) else (none)) else (some x5)
def bits_Turn.f (k : Nat) (l0 : List Int) (l1 : List Int) : Option (List Int) := (slices_Clone_byte_byte.f l0).bind fun t219 => (bits_Turn.l0 k t219 l1 (l1.length : Int) 0)
theorem bits_Turn.mono_l : ∀ k, (∀ y0 y1 y2 y3, LeO (bits_Turn.l0 k y0 y1 y2 y3) (bits_Turn.l0 (k + 1) y0 y1 y2 y3))
  | 0 => fun _ _ _ _ r h => by simp [bits_Turn.l0] at h
  | k + 1 => by
    have ih0 := bits_Turn.mono_l k
    · intro y0 y1 y2 y3
      unfold bits_Turn.l0
      repeat' first
      | (with_reducible exact ih0 _ _ _ _)
      | (with_reducible exact LeO.refl _)
      | (with_reducible exact LeO.none _)
      | (with_reducible refine LeO.ite ?_ ?_)
      | (with_reducible refine LeO.bind ?_ (fun _ => ?_))
      | exact ih0 _ _ _ _
      | exact LeO.none _
      | refine LeO.ite ?_ ?_
      | refine LeO.bind ?_ (fun _ => ?_)
theorem bits_Turn.mono : ∀ a0 a1 k, LeO (bits_Turn.f k a0 a1) (bits_Turn.f (k + 1) a0 a1) := by
  intro a0 a1 k
  have ih0 := bits_Turn.mono_l k
  unfold bits_Turn.f
  repeat' first
      | (with_reducible exact ih0 _ _ _ _)
      | (with_reducible exact LeO.refl _)
      | (with_reducible exact LeO.none _)
      | (with_reducible refine LeO.ite ?_ ?_)
      | (with_reducible refine LeO.bind ?_ (fun _ => ?_))
      | exact ih0 _ _ _ _
      | exact LeO.none _
      | refine LeO.ite ?_ ?_
      | refine LeO.bind ?_ (fun _ => ?_)
set_option maxHeartbeats 8000000 in
set_option maxRecDepth 100000 in
theorem bits_Turn.calls (k : Nat) (A0 : Option Addr) (c0 : Nat) (l0 : List Int) (A1 : Option Addr) (c1 : Nat) (l1 : List Int) (r : List Int) (w : World) (hr0 : Kd.C (Kd.int .u8) w A0 l0.length l0) (hc0 : l0.length ≤ c0) (hr1 : Kd.C (Kd.int .i64) w A1 l1.length l1) (hc1 : l1.length ≤ c1) (h : bits_Turn.f k l0 l1 = some r) :
    Calls Tryd.prog 11 #[.slice A0 l0.length c0, .slice A1 l1.length c1] w fun e w' => ∃ v0_ : Value, e = .returned (v0_) ∧ Kd.R (Kd.int .u8) 5 w' w.heap.size (fun _ => True) v0_ r ∧ Below w.heap.size w w' := by
  have HR0 := Aside0.mk hr0
  have HC0 := Aside0.mk hc0
  clear hr0 hc0
  have HR1 := Aside0.mk hr1
  have HC1 := Aside0.mk hc1
  clear hr1 hc1
  have HB := Aside0.mk (Below.refl w.heap.size w)
  have H : ((slices_Clone_byte_byte.f l0).bind fun t219 => (bits_Turn.l0 k t219 l1 (l1.length : Int) 0)) = some r := h
  clear h
  replace H := Option.bind_eq_some_iff.mp H
  obtain ⟨t219, A30, H⟩ := H
  replace H : (bits_Turn.l0 k t219 l1 (l1.length : Int) 0) = some r := H
  have A3 := Aside0.mk A30
  clear A30
  have H' := Aside0.mk H
  clear H
  go_enter Tryd.func11, Tryd.ntmps11
  go_wp2_with (first | ((with_reducible refine gate_callee (f := 23) rfl ?_); refine goesL_ (some 9) rfl rfl Tryd.func23 (by kernel_rfl) rfl #[.slice A0 l0.length c0] rfl (by (try simp only [List.map_toArray, List.map_cons, List.map_nil]); first | done | rfl | (simp only [List.length_drop, List.length_take]; rfl)) ?_; (with_reducible refine (slices_Clone_byte_byte.calls _ _ l0 t219 _ ?side1 ?side2 A3.out).mono ?_); (case side1 => repeat (first | exact HR0.out | (with_reducible refine Kd.C_alloc ?_ _) | (with_reducible refine Kd.C_drewN ?_ _) | (with_reducible refine Kd.C_drew ?_))); (case side2 => exact HC0.out); rintro e w4 ⟨v220, rfl, ho0, hb⟩; refine ⟨_, rfl, ?_⟩; have n0_ := Aside0.mk (Kd.R_lower ho0 (below_size (by repeat (first | (with_reducible first | exact HB.out | apply below_alloc | apply pw_below_drewN | apply below_drew1) | exact HB.out)))); have n1_ := Aside0.mk (below_step (by repeat (first | (with_reducible first | exact HB.out | apply below_alloc | apply pw_below_drewN | apply below_drew1) | exact HB.out)) hb); clear HB; have HO221 := n0_; have HB := n1_; clear n0_ n1_; (try clear hb); (try clear hb2); (try clear hk); (try clear hi); (try clear ho0)))
  go_loopg [12] k (fun kq v12 w' => ∃ (x5_1 : List Int) (x12_1 : Int), v12 = .int .i64 x12_1 ∧ Aside0 (bits_Turn.l0 kq x5_1 l1 (l1.length : Int) x12_1 = some r) ∧ Aside0 (kq ≤ k) ∧ Aside0 (Kd.R (Kd.int .u8) 5 w' w.heap.size (fun _ => True) v220 x5_1) ∧ Aside0 (Below w.heap.size w w'))
  case atStart => exact ⟨(t219), (0), (by first | rfl | (simp; done) | (simp [*]; done)), H', ⟨Nat.le_refl _⟩, ⟨by (with_reducible repeat (first | apply Kd.R_alloc | apply Kd.R_drewN | apply Kd.R_drew)); exact HO221.out⟩, ⟨by repeat (first | (with_reducible first | exact HB.out | apply below_alloc | apply pw_below_drewN | apply below_drew1) | exact HB.out)⟩⟩
  case round =>
    clear H'
    try clear c1
    try clear c2
    try clear p2
    obtain ⟨x5_1, x12_1, rfl, HA, HK1, HO_5, HB⟩ := hrel
    cases gk with
    | zero => exact absurd HA.out (by simp [bits_Turn.l0])
    | succ k1 =>
      have H := HA.out
      clear HA
      simp only [bits_Turn.l0] at H
      by_cases c5 : x12_1 < (l1.length : Int)
      · rw [if_pos c5] at H
        have c5b0 : decide (x12_1 < (l1.length : Int)) = true := decide_eq_true c5
        clear c5
        by_cases c6 : 0 ≤ x12_1
        · rw [if_pos c6] at H
          have c6b0 : decide (0 ≤ x12_1) = true := decide_eq_true c6
          clear c6
          by_cases c7 : x12_1 < (l1.length : Int)
          · rw [if_pos c7] at H
            have c7b0 : decide (x12_1 < (l1.length : Int)) = true := decide_eq_true c7
            clear c7
            by_cases c8 : (rd l1 x12_1) ≥ 0
            · rw [if_pos c8] at H
              have c8b0 : decide (0 ≤ (rd l1 x12_1)) = true := decide_eq_true c8
              clear c8
              by_cases c9 : (rd l1 x12_1) < (x5_1.length : Int)
              · rw [if_pos c9] at H
                have c9b0 : decide ((rd l1 x12_1) < (x5_1.length : Int)) = true := decide_eq_true c9
                clear c9
                by_cases c10 : 0 ≤ (rd l1 x12_1)
                · rw [if_pos c10] at H
                  have c10b0 : decide (0 ≤ (rd l1 x12_1)) = true := decide_eq_true c10
                  clear c10
                  obtain ⟨y224, hy224⟩ : ∃ y_ : List Int, y_ = (x5_1.set ((rd l1 x12_1) : Int).toNat (Go.bits .xor .u8 (rd x5_1 (rd l1 x12_1)) 1)) := ⟨_, rfl⟩
                  replace H : (bits_Turn.l0 k1 y224 l1 (l1.length : Int) (wrap64 (x12_1 + 1))) = some r := by first | (rw [hy224]; with_reducible exact H) | (have H2_ := (Option.bind_some _ _).symm.trans H; rw [hy224]; with_reducible exact H2_) | (have H2_ := (Option.bind_some _ _).symm.trans H; with_reducible exact H2_) | with_reducible exact H | (rw [hy224]; exact H) | exact H
                  have Ny224 := Aside0.mk hy224
                  clear hy224
                  have H' := Aside0.mk H
                  clear H
                  have p222 : 0 ≤ (x12_1 : Int) := of_decide_eq_true (by first | (with_reducible assumption) | assumption)
                  have q222 : x12_1 < (l1.length : Int) := of_decide_eq_true (by first | (with_reducible assumption) | assumption)
                  obtain ⟨ad222, e222, hx222_0⟩ := Kd.at_int HR1.out x12_1 p222 q222
                  cases e222
                  replace hx222_0 := (HB.out.cell (World.block_lt_of_cell? w _ hx222_0)).trans hx222_0
                  replace p222 := eq_true p222
                  replace q222 := eq_true q222
                  obtain ⟨Ao12, co12, eo12⟩ := Kd.R_slice HO_5.out
                  subst eo12
                  have p223 : 0 ≤ ((rd l1 x12_1) : Int) := of_decide_eq_true (by first | (with_reducible assumption) | assumption)
                  have q223 : (rd l1 x12_1) < (x5_1.length : Int) := of_decide_eq_true (by first | (with_reducible assumption) | assumption)
                  obtain ⟨ad223, e223, hx223_0⟩ := Kd.at_int (Kd.R_reads' HO_5.out).2.2 (rd l1 x12_1) p223 q223
                  cases e223
                  replace p223 := eq_true p223
                  replace q223 := eq_true q223
                  have p11 : 0 ≤ ((rd l1 x12_1) : Int) := of_decide_eq_true (by first | (with_reducible assumption) | assumption)
                  have q11 : ((rd l1 x12_1) : Int) < ((x5_1.length : Int) : Int) := of_decide_eq_true (by first | (with_reducible assumption) | assumption)
                  obtain ⟨go11, co11, eo11, gb11, gl11, cl11, HG11⟩ := Kd.R_form HO_5.out (by omega)
                  (first | cases eo11 | (injection eo11 with ea_ en_ ec_; (first | subst ea_ | (injection ea_ with ea_; subst ea_)); subst ec_; clear en_))
                  have GB11 := Aside0.mk gb11
                  have GG11 := Aside0.mk HG11
                  clear gb11 gl11 HG11
                  (first | simp only [add_plain] at hx223_0 | skip)
                  obtain ⟨hx11_0, hf11_0⟩ := Kd.R_celln 0 HO_5.out ((rd l1 x12_1) : Int) p11 q11
                  replace p11 := eq_true p11
                  replace q11 := eq_true q11
                  have HP13 := Kd.R_putg HO_5.out ((rd l1 x12_1) : Int) (Go.bits .xor .u8 (rd x5_1 (rd l1 x12_1)) 1)
                  go_wp2_with (first | ((with_reducible refine gate_store (t := 5) (p := 29) rfl ?_); refine store_event (t := 5) (p := 29) (v := ?vo_w14) (w1 := (wr.setCell ⟨go11, ((rd l1 x12_1) : Int).toNat, none⟩ (.int .u8 (Go.bits .xor .u8 (rd x5_1 (rd l1 x12_1)) 1)))) ?hg ?ho ?hn ?hr ?_; (case ho => rfl); (case hg => rfl); (case hn => rfl); (case hr => first | (go_simp; done) | (go_simp; rfl)); intro w14 hw; have hg : wr.grownBy w14 (some go11) := (by rw [hw]; exact HP13.2); have hp_ : Kd.R (Kd.int .u8) 5 w14 w.heap.size (fun _ => True) (.slice (some ⟨go11, 0, none⟩) x5_1.length co12) y224 := (by rw [hw, Ny224.out]; exact HP13.1); clear HP13; have n0_ := Aside0.mk (hp_); have n1_ := Aside0.mk ((by rw [hw]; exact below_set (HB.out) GB11.out : Below w.heap.size w w14)); clear HO_5; clear HB; have HO_5 := n0_; have HB := n1_; clear n0_ n1_; clear hg hw hp_))
                  go_roundg k1
                  case measure => have := HK1.out; omega
                  case rel => exact ⟨(y224), (wrap64 (x12_1 + 1)), (by first | rfl | (simp; done) | (simp [*]; done)), H', ⟨by have := HK1.out; omega⟩, ⟨by (with_reducible repeat (first | apply Kd.R_alloc | apply Kd.R_drewN | apply Kd.R_drew)); exact HO_5.out⟩, ⟨by repeat (first | (with_reducible first | exact HB.out | apply below_alloc | apply pw_below_drewN | apply below_drew1) | exact HB.out)⟩⟩
                · rw [if_neg c10] at H
                  exact absurd H (by simp)
              · rw [if_neg c9] at H
                have c9b0 : decide ((rd l1 x12_1) < (x5_1.length : Int)) = false := decide_eq_false c9
                clear c9
                have H' := Aside0.mk H
                clear H
                have p222 : 0 ≤ (x12_1 : Int) := of_decide_eq_true (by first | (with_reducible assumption) | assumption)
                have q222 : x12_1 < (l1.length : Int) := of_decide_eq_true (by first | (with_reducible assumption) | assumption)
                obtain ⟨ad222, e222, hx222_0⟩ := Kd.at_int HR1.out x12_1 p222 q222
                cases e222
                replace hx222_0 := (HB.out.cell (World.block_lt_of_cell? w _ hx222_0)).trans hx222_0
                replace p222 := eq_true p222
                replace q222 := eq_true q222
                obtain ⟨Ao15, co15, eo15⟩ := Kd.R_slice HO_5.out
                subst eo15
                go_wp2
                go_roundg k1
                case measure => have := HK1.out; omega
                case rel => exact ⟨(x5_1), (wrap64 (x12_1 + 1)), (by first | rfl | (simp; done) | (simp [*]; done)), H', ⟨by have := HK1.out; omega⟩, ⟨by (with_reducible repeat (first | apply Kd.R_alloc | apply Kd.R_drewN | apply Kd.R_drew)); exact HO_5.out⟩, ⟨by repeat (first | (with_reducible first | exact HB.out | apply below_alloc | apply pw_below_drewN | apply below_drew1) | exact HB.out)⟩⟩
            · rw [if_neg c8] at H
              have c8b0 : decide (0 ≤ (rd l1 x12_1)) = false := decide_eq_false c8
              clear c8
              have H' := Aside0.mk H
              clear H
              have p222 : 0 ≤ (x12_1 : Int) := of_decide_eq_true (by first | (with_reducible assumption) | assumption)
              have q222 : x12_1 < (l1.length : Int) := of_decide_eq_true (by first | (with_reducible assumption) | assumption)
              obtain ⟨ad222, e222, hx222_0⟩ := Kd.at_int HR1.out x12_1 p222 q222
              cases e222
              replace hx222_0 := (HB.out.cell (World.block_lt_of_cell? w _ hx222_0)).trans hx222_0
              replace p222 := eq_true p222
              replace q222 := eq_true q222
              go_wp2
              go_roundg k1
              case measure => have := HK1.out; omega
              case rel => exact ⟨(x5_1), (wrap64 (x12_1 + 1)), (by first | rfl | (simp; done) | (simp [*]; done)), H', ⟨by have := HK1.out; omega⟩, ⟨by (with_reducible repeat (first | apply Kd.R_alloc | apply Kd.R_drewN | apply Kd.R_drew)); exact HO_5.out⟩, ⟨by repeat (first | (with_reducible first | exact HB.out | apply below_alloc | apply pw_below_drewN | apply below_drew1) | exact HB.out)⟩⟩
          · rw [if_neg c7] at H
            exact absurd H (by simp)
        · rw [if_neg c6] at H
          exact absurd H (by simp)
      · rw [if_neg c5] at H
        have c5b0 : decide (x12_1 < (l1.length : Int)) = false := decide_eq_false c5
        clear c5
        obtain rfl := Option.some.inj H
        go_wp2
        go_ret
        exact ⟨_, by first | rfl | (simp [errW_none, errW_some] <;> rfl) | (simp [*, errW_none, errW_some] <;> rfl), by (with_reducible repeat (first | apply Kd.R_alloc | apply Kd.R_drewN | apply Kd.R_drew)); exact HO_5.out, by repeat (first | (with_reducible first | exact HB.out | apply below_alloc | apply pw_below_drewN | apply below_drew1) | exact HB.out)⟩
end
-- YteileaajmnbmpaaDoorP41
section
attribute [local go_sem] max2_int min2_int max_two min_two max_three min_three max_four min_four
set_option linter.unusedVariables false
set_option linter.unusedSimpArgs false

/-! ### shuttletop_places: function 12 -/
def shuttletop_places.l0 : Nat → List Int → Int → Int → List Int → Int → Option (List Int)
  | 0, _, _, _, _, _ => none
  | k + 1, x0, x1, x2, x7, x8 => if x8 < (x0.length : Int) then (if x8 < x1 then (if 0 ≤ x8 then (if (IntKind.u64.wrap (x2)) = 0 then (none) else (if x7.length < 17592186044416 then (shuttletop_places.l0 k x0 x1 x2 (x7 ++ [wrap64 (Int.tmod (IntKind.u64.wrap (rd x0 x8)) (IntKind.u64.wrap (x2)))]) (wrap64 (x8 + 1))) else (none))) else (none)) else (some x7)) else (some x7)
def shuttletop_places.f (k : Nat) (l0 : List Int) (a1 : Int) (a2 : Int) : Option (List Int) := shuttletop_places.l0 k l0 a1 a2 ([] : List Int) 0
theorem shuttletop_places.mono_l : ∀ k, (∀ y0 y1 y2 y3 y4, LeO (shuttletop_places.l0 k y0 y1 y2 y3 y4) (shuttletop_places.l0 (k + 1) y0 y1 y2 y3 y4))
  | 0 => fun _ _ _ _ _ r h => by simp [shuttletop_places.l0] at h
  | k + 1 => by
    have ih0 := shuttletop_places.mono_l k
    · intro y0 y1 y2 y3 y4
      unfold shuttletop_places.l0
      repeat' first
      | (with_reducible exact ih0 _ _ _ _ _)
      | (with_reducible exact LeO.refl _)
      | (with_reducible exact LeO.none _)
      | (with_reducible refine LeO.ite ?_ ?_)
      | (with_reducible refine LeO.bind ?_ (fun _ => ?_))
      | exact ih0 _ _ _ _ _
      | exact LeO.none _
      | refine LeO.ite ?_ ?_
      | refine LeO.bind ?_ (fun _ => ?_)
theorem shuttletop_places.mono : ∀ a0 a1 a2 k, LeO (shuttletop_places.f k a0 a1 a2) (shuttletop_places.f (k + 1) a0 a1 a2) := by
  intro a0 a1 a2 k
  have ih0 := shuttletop_places.mono_l k
  unfold shuttletop_places.f
  repeat' first
      | (with_reducible exact ih0 _ _ _ _ _)
      | (with_reducible exact LeO.refl _)
      | (with_reducible exact LeO.none _)
      | (with_reducible refine LeO.ite ?_ ?_)
      | (with_reducible refine LeO.bind ?_ (fun _ => ?_))
      | exact ih0 _ _ _ _ _
      | exact LeO.none _
      | refine LeO.ite ?_ ?_
      | refine LeO.bind ?_ (fun _ => ?_)
set_option maxHeartbeats 8000000 in
set_option maxRecDepth 100000 in
theorem shuttletop_places.calls (k : Nat) (A0 : Option Addr) (c0 : Nat) (l0 : List Int) (a1 : Int) (a2 : Int) (r : List Int) (w : World) (hr0 : Kd.C (Kd.int .i64) w A0 l0.length l0) (hc0 : l0.length ≤ c0) (h : shuttletop_places.f k l0 a1 a2 = some r) :
    Calls Tryd.prog 12 #[.slice A0 l0.length c0, .int .i64 a1, .int .i64 a2] w fun e w' => ∃ v0_ : Value, e = .returned (v0_) ∧ Kd.R (Kd.int .i64) 3 w' w.heap.size (fun _ => True) v0_ r ∧ Below w.heap.size w w' := by
  have HR0 := Aside0.mk hr0
  have HC0 := Aside0.mk hc0
  clear hr0 hc0
  have HB := Aside0.mk (Below.refl w.heap.size w)
  have H : (shuttletop_places.l0 k l0 a1 a2 ([] : List Int) 0) = some r := h
  clear h
  have H' := Aside0.mk H
  clear H
  go_enter Tryd.func12, Tryd.ntmps12
  go_wp2
  go_loopg [7, 8] k (fun kq v7 v8 w' => ∃ (x7_1 : List Int) (x8_1 : Int), v8 = .int .i64 x8_1 ∧ Aside0 (shuttletop_places.l0 kq l0 a1 a2 x7_1 x8_1 = some r) ∧ Aside0 (kq ≤ k) ∧ Aside0 (Kd.R (Kd.int .i64) 3 w' w.heap.size (fun _ => True) v7 x7_1) ∧ Aside0 (Below w.heap.size w w'))
  case atStart => exact ⟨(([] : List Int)), (0), (by first | rfl | (simp; done) | (simp [*]; done)), H', ⟨Nat.le_refl _⟩, ⟨by first | exact Kd.R_nil _ _ _ _ _ | exact Kd.N_nil _ _ _ _ _ | exact Kd.V_nil _ _ _ _ _ | exact Kd.Q_nil _ _ _ _ _ | exact Kd.S_nil _ _ _ _ _⟩, ⟨by repeat (first | (with_reducible first | exact HB.out | apply below_alloc | apply pw_below_drewN | apply below_drew1) | exact HB.out)⟩⟩
  case round =>
    clear H'
    try clear c1
    try clear p2
    obtain ⟨x7_1, x8_1, rfl, HA, HK1, HO_7, HB⟩ := hrel
    cases gk with
    | zero => exact absurd HA.out (by simp [shuttletop_places.l0])
    | succ k1 =>
      have H := HA.out
      clear HA
      simp only [shuttletop_places.l0] at H
      by_cases c4 : x8_1 < (l0.length : Int)
      · rw [if_pos c4] at H
        have c4b0 : decide (x8_1 < (l0.length : Int)) = true := decide_eq_true c4
        clear c4
        by_cases c5 : x8_1 < a1
        · rw [if_pos c5] at H
          have c5b0 : decide (x8_1 < a1) = true := decide_eq_true c5
          clear c5
          by_cases c6 : 0 ≤ x8_1
          · rw [if_pos c6] at H
            have c6b0 : decide (0 ≤ x8_1) = true := decide_eq_true c6
            clear c6
            by_cases c7 : (IntKind.u64.wrap (a2)) = 0
            · rw [if_pos c7] at H
              exact absurd H (by simp)
            · rw [if_neg c7] at H
              have c7b0 : ((IntKind.u64.wrap (a2)) == 0) = false := beq_eq_false_iff_ne.mpr c7
              have c7b1 : ((IntKind.u64.wrap (a2)) != 0) = true := bne_iff_ne.mpr c7
              by_cases c8 : x7_1.length < 17592186044416
              · rw [if_pos c8] at H
                have LMc8 := Aside0.mk c8
                clear c8
                obtain ⟨y226, hy226⟩ : ∃ y_ : List Int, y_ = (x7_1 ++ [wrap64 (Int.tmod (IntKind.u64.wrap (rd l0 x8_1)) (IntKind.u64.wrap (a2)))]) := ⟨_, rfl⟩
                replace H : (shuttletop_places.l0 k1 l0 a1 a2 y226 (wrap64 (x8_1 + 1))) = some r := by first | (rw [hy226]; with_reducible exact H) | (have H2_ := (Option.bind_some _ _).symm.trans H; rw [hy226]; with_reducible exact H2_) | (have H2_ := (Option.bind_some _ _).symm.trans H; with_reducible exact H2_) | with_reducible exact H | (rw [hy226]; exact H) | exact H
                have Ny226 := Aside0.mk hy226
                clear hy226
                have H' := Aside0.mk H
                clear H
                have p225 : 0 ≤ (x8_1 : Int) := of_decide_eq_true (by first | (with_reducible assumption) | assumption)
                have q225 : x8_1 < (l0.length : Int) := of_decide_eq_true (by first | (with_reducible assumption) | assumption)
                obtain ⟨ad225, e225, hx225_0⟩ := Kd.at_int HR0.out x8_1 p225 q225
                cases e225
                replace hx225_0 := (HB.out.cell (World.block_lt_of_cell? w _ hx225_0)).trans hx225_0
                replace p225 := eq_true p225
                replace q225 := eq_true q225
                go_wp2_with (first | ((with_reducible refine gate_builtin (b := .append) (xs := #[.tmp 20, .tmp 30]) rfl ?_); at_builtin; refine Kd.R_append (Kd.int .i64) (w0 := w) w.heap.size rfl (.tmp 20) (.tmp 30) 23 3 (.int .i64 0) 8 rfl Tryd.underlying23 info3 rfl (by decide) (by omega) u7 x7_1 (wrap64 (Int.tmod (IntKind.u64.wrap (rd l0 x8_1)) (IntKind.u64.wrap (a2)))) [.int .i64 (wrap64 (Int.tmod (IntKind.u64.wrap (rd l0 x8_1)) (IntKind.u64.wrap (a2))))] (fun _ => True) (fun _ => False) rfl rfl ?aP (fun _ hk => hk.elim) ?aF ?aO ?aB ?aS ?aL ?_; (case aP => exact rfl); (case aB => exact (by repeat (first | (with_reducible first | exact HB.out | apply below_alloc | apply pw_below_drewN | apply below_drew1) | exact HB.out))); (case aF => exact (fun _ _ => trivial)); (case aO => exact (by (with_reducible repeat (first | apply Kd.R_alloc | apply Kd.R_drewN | apply Kd.R_drew)); exact HO_7.out)); (case aS => exact (below_size (by repeat (first | (with_reducible first | exact HB.out | apply below_alloc | apply pw_below_drewN | apply below_drew1) | exact HB.out)))); (case aL => have := LMc8.out; omega); intro v227 w9 ho hb hg hat; rw [← Ny226.out] at ho; have n0_ := Aside0.mk (hb); have n1_ := Aside0.mk (ho); clear HB; clear HO_7; have HB := n0_; have HO228 := n1_; clear n0_ n1_; clear ho hb hg hat))
                go_roundg k1
                case measure => have := HK1.out; omega
                case rel => exact ⟨(y226), (wrap64 (x8_1 + 1)), (by first | rfl | (simp; done) | (simp [*]; done)), H', ⟨by have := HK1.out; omega⟩, ⟨by (with_reducible repeat (first | apply Kd.R_alloc | apply Kd.R_drewN | apply Kd.R_drew)); exact HO228.out⟩, ⟨by repeat (first | (with_reducible first | exact HB.out | apply below_alloc | apply pw_below_drewN | apply below_drew1) | exact HB.out)⟩⟩
              · rw [if_neg c8] at H
                exact absurd H (by simp)
          · rw [if_neg c6] at H
            exact absurd H (by simp)
        · rw [if_neg c5] at H
          have c5b0 : decide (x8_1 < a1) = false := decide_eq_false c5
          clear c5
          obtain rfl := Option.some.inj H
          go_wp2
          go_ret
          exact ⟨_, by first | rfl | (simp [errW_none, errW_some] <;> rfl) | (simp [*, errW_none, errW_some] <;> rfl), by (with_reducible repeat (first | apply Kd.R_alloc | apply Kd.R_drewN | apply Kd.R_drew)); exact HO_7.out, by repeat (first | (with_reducible first | exact HB.out | apply below_alloc | apply pw_below_drewN | apply below_drew1) | exact HB.out)⟩
      · rw [if_neg c4] at H
        have c4b0 : decide (x8_1 < (l0.length : Int)) = false := decide_eq_false c4
        clear c4
        obtain rfl := Option.some.inj H
        go_wp2
        go_ret
        exact ⟨_, by first | rfl | (simp [errW_none, errW_some] <;> rfl) | (simp [*, errW_none, errW_some] <;> rfl), by (with_reducible repeat (first | apply Kd.R_alloc | apply Kd.R_drewN | apply Kd.R_drew)); exact HO_7.out, by repeat (first | (with_reducible first | exact HB.out | apply below_alloc | apply pw_below_drewN | apply below_drew1) | exact HB.out)⟩
end
end Go.Proofs.YteileaajmnbmpaaDoor.P
namespace Go.Proofs.YteileaajmnbmpaaDoor.P
open Go Go.Proofs Go.RowKit Go.Proofs.YteileaajmnbmpaaDoorW.PrintWords Go.Proofs.YteileaajmnbmpaaDoorW.PrintLast Go.Proofs.YteileaajmnbmpaaDoorW.PrintMore
set_option linter.unusedVariables false
set_option linter.unusedSimpArgs false
-- YteileaajmnbmpaaDoorPMLaw0
theorem stands_ok : shuttletop_stands.f = some true := by
  unfold shuttletop_stands.f crc32_Sum.f
  rw [if_pos (by decide), Option.bind_some]
  have : ((sum32 [49, 50, 51, 52, 53, 54, 55, 56, 57]).toNat : Int) = 3421780262 := by decide +kernel
  rw [this]; rfl
theorem cut_f (l : List Int) : shuttletop_cut.f l 5 = some (l.take 5) := by
  have h : (mn (l.length : Int) 5).toNat = min l.length 5 := by unfold mn; split <;> omega
  have h0 : 0 ≤ mn (l.length : Int) 5 := by unfold mn; split <;> omega
  have h1 : mn (l.length : Int) 5 ≤ (l.length : Int) := by unfold mn; split <;> omega
  unfold shuttletop_cut.f
  rw [Option.bind_some, if_pos h0, if_pos h1, if_pos (by rw [List.length_take]; show 0 + _ < _; omega), h]
  refine congrArg some ?_
  show [] ++ l.take (min l.length 5) = _
  rw [List.nil_append]
  by_cases c : l.length ≤ 5
  · rw [show min l.length 5 = l.length by omega, List.take_of_length_le (Nat.le_refl _), List.take_of_length_le c]
  · rw [show min l.length 5 = 5 by omega]
theorem bit_all : ∀ x : Fin 256, ∀ j : Fin 8, (0 ≤ wrap64 (7 - (j.val : Int))) ∧ (Go.bits .and .u8 (shr .u8 (x.val : Int) (wrap64 (7 - (j.val : Int)))) 1 = 0 ∨ Go.bits .and .u8 (shr .u8 (x.val : Int) (wrap64 (7 - (j.val : Int)))) 1 = 1) := by decide +kernel
theorem bit_at {x : Int} (hx : 0 ≤ x ∧ x ≤ 255) {j : Nat} (hj : j < 8) : 0 ≤ wrap64 (7 - (j : Int)) ∧ isb (Go.bits .and .u8 (shr .u8 x (wrap64 (7 - (j : Int)))) 1) := by
  have h := bit_all ⟨x.toNat, by omega⟩ ⟨j, hj⟩
  have e : ((x.toNat : Nat) : Int) = x := by omega
  show _ ∧ (_ ∨ _)
  simp only [e] at h
  exact h
theorem of_l1 {x : Int} (hx : 0 ≤ x ∧ x ≤ 255) (l : List Int) (n i : Int) : ∀ (d k j : Nat) (acc : List Int), j + d = 8 → acc.length + d ≤ 1000 → ∃ E : List Int, E.length = d ∧ (∀ y ∈ E, isb y) ∧ bits_Of.l1 (k + d + 1) acc x l n i (j : Int) = bits_Of.l0 k (acc ++ E) l n (wrap64 (i + 1))
  | 0, k, j, acc, hj, _ => by
    obtain rfl : j = 8 := by omega
    refine ⟨[], rfl, (fun y hy => nomatch hy), ?_⟩
    rw [bits_Of.l1.eq_2, if_neg (by omega), List.append_nil]
  | d + 1, k, j, acc, hj, ha => by
    have hb := bit_at hx (j := j) (by omega)
    obtain ⟨E, h1, h2, h3⟩ := of_l1 hx l n i d k (j + 1) (acc ++ [Go.bits .and .u8 (shr .u8 x (wrap64 (7 - (j : Int)))) 1]) (by omega) (by rw [List.length_append]; show _ + 1 + d ≤ _; omega)
    refine ⟨Go.bits .and .u8 (shr .u8 x (wrap64 (7 - (j : Int)))) 1 :: E, by simp [h1], ?_, ?_⟩
    · intro y hy
      rcases List.mem_cons.1 hy with rfl | hy
      · exact hb.2
      · exact h2 y hy
    · rw [show k + (d + 1) + 1 = (k + d + 1) + 1 by omega, bits_Of.l1.eq_2, if_pos (by omega), if_pos hb.1, if_pos (by omega), wrap_succ j (by omega), h3, List.append_assoc]; rfl
theorem of_l0 (l : List Int) (hl : ∀ x ∈ l, 0 ≤ x ∧ x ≤ 255) (hn : l.length ≤ 100) : ∀ (d k i : Nat) (acc : List Int), i + d = l.length → acc.length = 8 * i → (∀ x ∈ acc, isb x) → ∃ L : List Int, bits_Of.l0 (k + 10 * d + 1) acc l (l.length : Int) (i : Int) = some L ∧ L.length = 8 * l.length ∧ ∀ x ∈ L, isb x
  | 0, k, i, acc, hi, ha, hb => ⟨acc, by rw [bits_Of.l0.eq_2, if_neg (by omega)], by omega, hb⟩
  | d + 1, k, i, acc, hi, ha, hb => by
    have hx : 0 ≤ l.getD i 0 ∧ l.getD i 0 ≤ 255 := by
      rw [List.getD_eq_getElem?_getD, List.getElem?_eq_getElem (by omega)]; exact hl _ (List.getElem_mem _)
    obtain ⟨E, h1, h2, h3⟩ := of_l1 hx l (l.length : Int) (i : Int) 8 (k + 10 * d + 1) 0 acc rfl (by omega)
    obtain ⟨L, q1, q2⟩ := of_l0 l hl hn d k (i + 1) (acc ++ E) (by omega) (by rw [List.length_append]; omega) (fun x hx => by
      rcases List.mem_append.1 hx with h | h
      · exact hb x h
      · exact h2 x h)
    refine ⟨L, ?_, q2⟩
    rw [show k + 10 * (d + 1) + 1 = (k + 10 * d + 1 + 8 + 1) + 1 by omega, bits_Of.l0.eq_2, if_pos (by omega), if_pos (by omega), if_pos (by omega), rd_getD]
    refine Eq.trans h3 ?_
    rw [wrap_succ i (by omega)]
    exact q1
theorem of_f (l : List Int) (hl : ∀ x ∈ l, 0 ≤ x ∧ x ≤ 255) (hn : l.length ≤ 5) : ∃ L : List Int, bits_Of.f 200 l = some L ∧ L.length = 8 * l.length ∧ ∀ x ∈ L, isb x := by
  obtain ⟨L, h1, h2⟩ := of_l0 l hl (by omega) l.length (199 - 10 * l.length) 0 [] (by omega) rfl (fun x hx => by cases hx)
  refine ⟨L, ?_, h2⟩
  unfold bits_Of.f
  rw [show 199 - 10 * l.length + 10 * l.length + 1 = 200 by omega] at h1
  exact h1
/-- Which bits of a code are a version's. -/
def fl (v i : Nat) : List Nat := (List.range i).filter fun j => ver (j % 4) (j / 4) == v
def prt (C : List Int) (v i : Nat) : List Int := (fl v i).map fun j => C.getD j 0
theorem prt_succ (C : List Int) (v i : Nat) : prt C v (i + 1) = prt C v i ++ (if ver (i % 4) (i / 4) = v then [C.getD i 0] else []) := by
  unfold prt fl
  rw [List.range_succ, List.filter_append, List.map_append]
  congr 1
  by_cases h : ver (i % 4) (i / 4) = v
  · rw [if_pos h, List.filter_cons_of_pos (by simpa using h)]; rfl
  · rw [if_neg h, List.filter_cons_of_neg (by simpa using h)]; rfl
theorem prt_le (C : List Int) (v i : Nat) : (prt C v i).length ≤ i := by
  unfold prt fl
  rw [List.length_map]
  exact Nat.le_trans (List.length_filter_le _ _) (by simp)
theorem split_l0 (C : List Int) (hC : C.length ≤ 4000) : ∀ (d k i : Nat), i + d = C.length → version_Split.l0 (k + d + 1) C (C.length : Int) (i : Int) (prt C 0 i) (prt C 1 i) (prt C 2 i) (prt C 3 i) = some (prt C 0 C.length, prt C 1 C.length, prt C 2 C.length, prt C 3 C.length, 0)
  | 0, k, i, hi => by
    obtain rfl : i = C.length := by omega
    rw [version_Split.l0.eq_2, if_neg (by omega)]
  | d + 1, k, i, hi => by
    have ih := split_l0 C hC d k (i + 1) (by omega)
    have e1 : Int.tmod (i : Int) 4 = ((i % 4 : Nat) : Int) := by rw [Int.tmod_eq_emod_of_nonneg (by omega)]; omega
    have e2 : wrap64 (Int.tdiv (i : Int) 4) = ((i / 4 : Nat) : Int) := by rw [Int.tdiv_eq_ediv_of_nonneg (by omega), wrap_in (by omega) (by omega)]; omega
    have hp := fun v => prt_le C v i
    have hv := ver_lt (i % 4) (i / 4)
    simp only [prt_succ] at ih
    rw [show k + (d + 1) + 1 = (k + d + 1) + 1 by omega, version_Split.l0.eq_2, if_pos (by omega), if_pos (by omega), if_pos (by omega), e1, e2, version_f (i % 4) (i / 4) (by omega) (by omega), Option.bind_some, if_pos rfl, rd_getD, wrap_succ i (by omega)]
    obtain ⟨u, hu⟩ : ∃ u, u = ver (i % 4) (i / 4) := ⟨_, rfl⟩
    rw [← hu] at hv ih ⊢
    have h0 := hp 0; have h1 := hp 1; have h2 := hp 2; have h3 := hp 3
    obtain rfl | rfl | rfl | rfl : u = 0 ∨ u = 1 ∨ u = 2 ∨ u = 3 := by omega
    · rw [if_pos (show ((((0 : Nat) : Int), (0 : Int)).1 = 0) from rfl), if_pos (by omega)]; simpa using ih
    · rw [if_neg (show ¬ ((((1 : Nat) : Int), (0 : Int)).1 = 0) by decide), if_pos (show ((((1 : Nat) : Int), (0 : Int)).1 = 1) from rfl), if_pos (by omega)]; simpa using ih
    · rw [if_neg (show ¬ ((((2 : Nat) : Int), (0 : Int)).1 = 0) by decide), if_neg (show ¬ ((((2 : Nat) : Int), (0 : Int)).1 = 1) by decide), if_pos (show ((((2 : Nat) : Int), (0 : Int)).1 = 2) from rfl), if_pos (by omega)]; simpa using ih
    · rw [if_neg (show ¬ ((((3 : Nat) : Int), (0 : Int)).1 = 0) by decide), if_neg (show ¬ ((((3 : Nat) : Int), (0 : Int)).1 = 1) by decide), if_neg (show ¬ ((((3 : Nat) : Int), (0 : Int)).1 = 2) by decide), if_pos (show ((((3 : Nat) : Int), (0 : Int)).1 = 3) from rfl), if_pos (by omega)]; simpa using ih
theorem plc_lt (v m : Nat) : plc v m < 4 * m + 4 ∧ 4 * m ≤ plc v m ∧ plc v m / 4 = m := by
  have : plc v m < 4 * m + 4 ∧ 4 * m ≤ plc v m := by unfold plc; omega
  exact ⟨this.1, this.2, by omega⟩
theorem plc_ver {v : Nat} (hv : v < 4) (j : Nat) : j = plc v (j / 4) ↔ ver (j % 4) (j / 4) = v := by
  unfold plc ver; omega
theorem prt_four (C : List Int) (v : Nat) (hv : v < 4) : ∀ m, prt C v (4 * m) = (List.range m).map fun t => C.getD (plc v t) 0
  | 0 => rfl
  | m + 1 => by
    have ih := prt_four C v hv m
    have q : ∀ s, s < 4 → (ver ((4 * m + s) % 4) ((4 * m + s) / 4) = v ↔ s = (v + m % 4) % 4) := fun s hs => by
      rw [← plc_ver hv, show (4 * m + s) / 4 = m by omega]; unfold plc; omega
    have q0 := q 0 (by decide); have q1 := q 1 (by decide); have q2 := q 2 (by decide); have q3 := q 3 (by decide)
    rw [List.range_succ, List.map_append, ← ih]
    show prt C v (4 * m + 3 + 1) = _
    rw [prt_succ, prt_succ C v (4 * m + 2), prt_succ C v (4 * m + 1), prt_succ C v (4 * m + 0)]
    simp only [q0, q1, q2, q3]
    have e : plc v m = 4 * m + (v + m % 4) % 4 := rfl
    show _ = prt C v (4 * m) ++ [C.getD (plc v m) 0]
    rw [e]
    generalize hr : (v + m % 4) % 4 = r
    obtain rfl | rfl | rfl | rfl : r = 0 ∨ r = 1 ∨ r = 2 ∨ r = 3 := by omega
    all_goals simp
theorem split_f {C : List Int} {m : Nat} (hm : C.length = 4 * m) (hC : C.length ≤ 4000) (hb : ∀ x ∈ C, isb x) (k : Nat) (hk : C.length + 1 < k) : version_Split.f k C = some (prt C 0 C.length, prt C 1 C.length, prt C 2 C.length, prt C 3 C.length, 0) := by
  unfold version_Split.f
  rw [right_f C (by omega) k (by omega), (big_isb (fun x hx => (isb01 (hb x hx)).1)).2 hb, Option.bind_some, if_pos (show (!false) = true from rfl), if_pos (by omega)]
  have h := split_l0 C hC C.length (k - C.length - 1) 0 (by omega)
  rw [show k - C.length - 1 + C.length + 1 = k by omega] at h
  exact h
/-- A version's part. -/
def vp (C : List Int) (v m : Nat) : List Int := (List.range m).map fun t => C.getD (plc v t) 0
theorem vp_len (C : List Int) (v m : Nat) : (vp C v m).length = m := by simp [vp]
theorem vp_get (C : List Int) (v m t : Nat) (h : t < m) : (vp C v m).getD t 0 = C.getD (plc v t) 0 := by
  unfold vp
  rw [List.getD_eq_getElem?_getD, List.getElem?_map, List.getElem?_range h]; rfl
theorem vp_isb {C : List Int} (hb : ∀ x ∈ C, isb x) (v m : Nat) : ∀ x ∈ vp C v m, isb x := by
  intro x hx
  simp only [vp, List.mem_map] at hx
  obtain ⟨t, _, rfl⟩ := hx
  exact getD_isb hb _
/-- One place. -/
theorem places_one (a : Int) (A : List Int) (m : Int) (hm : 0 < m ∧ m ≤ 1000) : ∃ p, shuttletop_places.f 10 (a :: A) 1 m = some [p] := by
  have e : IntKind.u64.wrap m = m := by unfold IntKind.wrap; simp [IntKind.signed, IntKind.bits]; omega
  have h1 : wrap64 ((0 : Int) + 1) = 1 := wrap_in (by omega) (by omega)
  have hl : (0 : Int) < ((a :: A).length : Int) := by simp
  refine ⟨wrap64 (Int.tmod (IntKind.u64.wrap (rd (a :: A) 0)) m), ?_⟩
  unfold shuttletop_places.f
  rw [shuttletop_places.l0.eq_2, if_pos hl, if_pos (by omega), if_pos (by omega), e, if_neg (by omega), if_pos (by simp), h1, shuttletop_places.l0.eq_2]
  by_cases c : (1 : Int) < ((a :: A).length : Int)
  · rw [if_pos c, if_neg (by omega)]; rfl
  · rw [if_neg c]; rfl
theorem turn_one {P : List Int} (hP : ∀ x ∈ P, isb x) (hl : P.length ≤ 1000) (p : Int) : ∃ R : List Int, bits_Turn.f 10 P [p] = some R ∧ R.length = P.length ∧ (∀ x ∈ R, isb x) ∧ ∃ k, ∀ t, t ≠ k → R.getD t 0 = P.getD t 0 := by
  unfold bits_Turn.f slices_Clone_byte_byte.f
  rw [if_pos (by omega), Option.bind_some, bits_Turn.l0.eq_2, if_pos (by simp), if_pos (by omega), if_pos (by simp), show rd [p] 0 = p from rfl]
  have hd : wrap64 ((0 : Int) + 1) = 1 := wrap_in (by omega) (by omega)
  by_cases c0 : p ≥ 0
  · by_cases c1 : p < (P.length : Int)
    · obtain ⟨q, rfl⟩ : ∃ q : Nat, p = (q : Int) := ⟨p.toNat, by omega⟩
      rw [if_pos c0, if_pos c1, if_pos c0, rd_getD, Int.toNat_natCast, hd, bits_Turn.l0.eq_2, if_neg (by simp)]
      refine ⟨_, rfl, by rw [List.length_set], ?_, q, fun t ht => ?_⟩
      · intro x hx
        rcases List.mem_or_eq_of_mem_set hx with h | h
        · exact hP x h
        · rw [h]; exact xor_isb (getD_isb hP q) (.inr rfl)
      · rw [set_getD _ _ _ _ (by omega), if_neg ht]
    · rw [if_pos c0, if_neg c1, hd, bits_Turn.l0.eq_2, if_neg (by simp)]
      exact ⟨P, rfl, rfl, hP, 0, fun _ _ => rfl⟩
  · rw [if_neg c0, hd, bits_Turn.l0.eq_2, if_neg (by simp)]
    exact ⟨P, rfl, rfl, hP, 0, fun _ _ => rfl⟩
-- YteileaajmnbmpaaDoorPPFr
/-- But for block g and v's own row nothing has turned. -/
structure Fr (g : Nat) (v : Value) (w w' : World) : Prop where
  os : w'.os = w.os
  tape : w'.tape = w.tape
  output : w'.output = w.output
  size : w.heap.size ≤ w'.heap.size
  block : ∀ k, k < w.heap.size → k ≠ g → some k ≠ v.ownBlock → w'.heap[k]? = w.heap[k]?
theorem Fr.refl (g : Nat) (v : Value) (w : World) : Fr g v w w := ⟨rfl, rfl, rfl, Nat.le_refl _, fun _ _ _ _ => rfl⟩
/-- v' is v's row, or a newer one. -/
def Newer (w : World) (v v' : Value) : Prop := v'.ownBlock = v.ownBlock ∨ ∀ b, v'.ownBlock = some b → w.heap.size ≤ b
theorem Newer.refl (w : World) (v : Value) : Newer w v v := .inl rfl
theorem Newer.trans {w w1 : World} {v v1 v2 : Value} (h : Newer w v v1) (hs : w.heap.size ≤ w1.heap.size) (k : Newer w1 v1 v2) : Newer w v v2 := by
  rcases k with k | k
  · rcases h with h | h
    · exact .inl (k.trans h)
    · exact .inr fun b hb => h b (k ▸ hb)
  · exact .inr fun b hb => Nat.le_trans hs (k b hb)
theorem Fr.trans {g : Nat} {v v1 : Value} {w w1 w2 : World} (h : Fr g v w w1) (hn : Newer w v v1) (k : Fr g v1 w1 w2) : Fr g v w w2 :=
  ⟨k.os.trans h.os, k.tape.trans h.tape, k.output.trans h.output, Nat.le_trans h.size k.size, fun i hi hg hv => by
    rw [k.block i (Nat.lt_of_lt_of_le hi h.size) hg ?_, h.block i hi hg hv]
    rcases hn with hn | hn
    · rw [hn]; exact hv
    · intro e; have := hn i e.symm; omega⟩
theorem Fr.below {g : Nat} {v : Value} {w w' : World} (h : Fr g v w w') {B : Nat} (hB : B ≤ w.heap.size) (hg : B ≤ g) (hv : ∀ b, v.ownBlock = some b → B ≤ b) : Below B w w' :=
  ⟨h.os, h.tape, h.output, h.size, fun k hk => h.block k (by omega) (by omega) (fun e => by have := hv k e.symm; omega)⟩
theorem Fr.of_below {g : Nat} {v : Value} {w w' : World} (h : Below w.heap.size w w') : Fr g v w w' := ⟨h.os, h.tape, h.output, h.size, fun k hk _ _ => h.block k hk⟩
theorem Fr.set {g : Nat} {v : Value} {w : World} (i : Nat) (x : Value) : Fr g v w (w.setCell ⟨g, i, none⟩ x) :=
  ⟨rfl, rfl, rfl, by simp, fun k _ hg _ => Below.heap_setCell w ⟨g, i, none⟩ x k (by exact hg)⟩
theorem Fr.seq {g : Nat} {v : Value} {w w1 w2 : World} (h : Fr g v w w1) (k : Fr g v w1 w2) : Fr g v w w2 := h.trans (.inl rfl) k
theorem Newer.none (w : World) (v : Value) : Newer w v (.slice none 0 0) := .inr fun b hb => by simp [Value.ownBlock] at hb
/-- What lies apart from the state lies apart from it behind a call too. -/
theorem apart_newer {w : World} {g k : Nat} {v v' : Value} (hn : Newer w v v') (hk : k < w.heap.size) (ha : k ≠ g ∧ some k ≠ v.ownBlock) : k ≠ g ∧ some k ≠ v'.ownBlock :=
  ⟨ha.1, fun e => by
    rcases hn with hn | hn
    · exact ha.2 (e.trans hn)
    · have := hn k e.symm; omega⟩
theorem Kd.R_fr {α : Type} {d : Kd α} {e n₀ g : Nat} {w w' : World} {v v' u : Value} {xs : List α} (h : Kd.R d e w n₀ (fun k => k ≠ g ∧ some k ≠ v.ownBlock) u xs) (hf : Fr g v w w') (hn : Newer w v v') :
    Kd.R d e w' n₀ (fun k => k ≠ g ∧ some k ≠ v'.ownBlock) u xs := by
  have h1 := Kd.R_bound h
  have h2 := Kd.R_step (w1 := w') h1 (fun k ok hk => hf.block k hk ok.1.1 ok.1.2)
  exact Kd.R_mono h2 (fun k ok => apart_newer hn ok.2.2.1 ok.1)
theorem Kd.V_fr {α : Type} {d : Kd α} {e n₀ g : Nat} {w w' : World} {v v' u : Value} {xs : List α} (h : Kd.V d e w n₀ (fun k => k ≠ g ∧ some k ≠ v.ownBlock) u xs) (hf : Fr g v w w') (hn : Newer w v v') :
    Kd.V d e w' n₀ (fun k => k ≠ g ∧ some k ≠ v'.ownBlock) u xs := by
  have h1 := Kd.V_bound h
  have h2 := Kd.V_step (w1 := w') h1 (fun k ok hk => hf.block k hk ok.1.1 ok.1.2)
  exact Kd.V_mono h2 (fun k ok => apart_newer hn ok.2 ok.1)
end Go.Proofs.YteileaajmnbmpaaDoor.P
-- YteileaajmnbmpaaDoorPDHeap0
namespace Go.Proofs.YteileaajmnbmpaaDoor.P
open Go Go.Proofs Go.RowKit Go.Proofs.YteileaajmnbmpaaDoorW.PrintWords Go.Proofs.YteileaajmnbmpaaDoorW.PrintLast Go.Proofs.YteileaajmnbmpaaDoorW.PrintMore
set_option linter.unusedVariables false
set_option linter.unusedSimpArgs false

/-- A way: its state, its step (modulo four), how far. -/
abbrev Wy := Int × (Int × Int)
abbrev kW : Kd Wy := Kd.pair (Kd.int .i64) (Kd.pair (Kd.int .i64) (Kd.int .i64))
def wyC (x : Wy) : List Value := [.int .i64 x.1, .int .i64 x.2.1, .int .i64 x.2.2]
theorem wy_info : (Tryd.prog.info? 87).map (fun i => (i.zero, i.size, i.bytes)) = some (some (.agg #[.int .i64 0, .int .i64 0, .int .i64 0]), 3, 24) := by kernel_rfl
theorem wy_size : (Tryd.prog.info? 87).map (·.size) = some 3 := by kernel_rfl
theorem kW_K (w : World) (x : Wy) : kW.K w x (wyC x) := ⟨[.int .i64 x.1], [.int .i64 x.2.1, .int .i64 x.2.2], rfl, rfl, [.int .i64 x.2.1], [.int .i64 x.2.2], rfl, rfl, rfl⟩
theorem kW_M (w : World) (base : Nat) (ok : Nat → Prop) (x : Wy) : kW.M w base ok x (wyC x) := ⟨[.int .i64 x.1], [.int .i64 x.2.1, .int .i64 x.2.2], rfl, rfl, [.int .i64 x.2.1], [.int .i64 x.2.2], rfl, rfl, rfl⟩
theorem kW_of {w : World} {x : Wy} {cs : List Value} (h : kW.K w x cs) : cs = wyC x := by
  obtain ⟨c0, c1, rfl, h0, d0, d1, rfl, h1, h2⟩ := h
  have e0 : c0 = [.int .i64 x.1] := h0
  have e1 : d0 = [.int .i64 x.2.1] := h1
  have e2 : d1 = [.int .i64 x.2.2] := h2
  rw [e0, e1, e2]; rfl
/-- The search at block g: weights, the row of ways (from n₀ on), the map. -/
structure HS (w : World) (n₀ g : Nat) (q0 q1 q2 q3 : Int) (M v : Value) (L : List Wy) : Prop where
  blk : w.heap[g]? = some (.cells #[.int .i64 q0, .int .i64 q1, .int .i64 q2, .int .i64 q3, v, M] 65 (0, 0))
  row : Kd.R kW 87 w n₀ (fun _ => True) v L
  low : n₀ ≤ g
variable {w w' : World} {n₀ g : Nat} {q0 q1 q2 q3 : Int} {M v v' : Value} {L L' : List Wy}
theorem HS.lt (h : HS w n₀ g q0 q1 q2 q3 M v L) : g < w.heap.size := blk_lt h.blk
theorem HS.ne (h : HS w n₀ g q0 q1 q2 q3 M v L) : some g ≠ v.ownBlock := Kd.R_ne h.row h.blk (by decide)
theorem HS.own (h : HS w n₀ g q0 q1 q2 q3 M v L) : ∀ b, v.ownBlock = some b → n₀ ≤ b ∧ b < w.heap.size := by
  intro b hb
  obtain ⟨inner, ho⟩ := Kd.R_own h.row
  exact ⟨own_base ho b hb, own_lt ho b hb⟩
theorem HS.below (h : HS w n₀ g q0 q1 q2 q3 M v L) (hb : Below w.heap.size w w') : HS w' n₀ g q0 q1 q2 q3 M v L := ⟨(hb.block g h.lt).trans h.blk, Kd.R_below h.row hb, h.low⟩
theorem HS.rowed {w2 : World} (h : HS w n₀ g q0 q1 q2 q3 M v L) (hr : Kd.R kW 87 w2 n₀ (fun _ => True) v' L') (hg : w.grownBy w2 v.ownBlock) (hat : v'.ownBlock = v.ownBlock ∨ (∃ b, v'.ownBlock = some b ∧ w.heap.size ≤ b) ∨ v'.ownBlock = none) :
    HS (w2.setCell ⟨g, 4, none⟩ v') n₀ g q0 q1 q2 q3 M v' L' ∧ Fr g v w (w2.setCell ⟨g, 4, none⟩ v') ∧ Newer w v v' := by
  have hb2 : w2.heap[g]? = some (.cells #[.int .i64 q0, .int .i64 q1, .int .i64 q2, .int .i64 q3, v, M] 65 (0, 0)) := (hg.block g h.lt h.ne).trans h.blk
  refine ⟨⟨blk_put hb2 4 _ rfl, Kd.R_set hr hb2 (by decide) 4 _, h.low⟩, ⟨hg.os, hg.tape, hg.output, by simpa using hg.size, fun k hk hkg hkv => ?_⟩, ?_⟩
  · rw [Below.heap_setCell w2 ⟨g, 4, none⟩ v' k hkg]; exact hg.block k hk hkv
  · rcases hat with e | ⟨b, e, hb⟩ | e
    · exact .inl e
    · exact .inr fun b' hb' => by rw [e] at hb'; injection hb' with hb'; omega
    · exact .inr fun b' hb' => by rw [e] at hb'; cases hb'
theorem HS.slice (h : HS w n₀ g q0 q1 q2 q3 M v L) : ∃ A c, v = .slice A L.length c := Kd.R_slice h.row
theorem grown_below {w w' : World} (hb : Below w.heap.size w w') (row : Option Nat) : w.grownBy w' row := ⟨hb.os, hb.tape, hb.output, hb.size, fun k hk _ => hb.block k hk⟩
/-- A row that isn't empty lies in a block. -/
theorem ways_blk (h : Kd.R kW 87 w n₀ (fun _ => True) v L) (hl : 0 < L.length) : ∃ b c, v = .slice (some ⟨b, 0, none⟩) L.length c := by
  obtain ⟨_, inner, hown, hr⟩ := h
  rcases hown.2 with ⟨hv, hz⟩ | ⟨b, cap, cur, hv, _⟩
  · omega
  · exact ⟨b, cap, hv⟩
/-- A way's cells. -/
theorem ways_at {b c : Nat} {ok : Nat → Prop} (h : Kd.R kW 87 w n₀ ok (.slice (some ⟨b, 0, none⟩) L.length c) L) (i : Nat) (hi : i < L.length) (j : Nat) (hj : j < 3) : w.cell? ⟨b, i * 3 + j, none⟩ = (wyC L[i])[j]? := by
  obtain ⟨ad, e, hcell⟩ := (Kd.R_reads' h).2.2.2.2 (by omega)
  injection e with e
  subst e
  obtain ⟨cs, hcs, hK, hc⟩ := hcell i _ (List.getElem?_eq_getElem hi)
  have e2 := kW_of hK
  subst e2
  have hj3 : (wyC L[i])[j]? = some ((wyC L[i])[j]'(by simpa [wyC] using hj)) := List.getElem?_eq_getElem _
  have h4 := hc j _ hj3
  rw [hj3]
  rw [add_plain] at h4
  exact h4
set_option maxRecDepth 100000 in
set_option maxHeartbeats 4000000 in
theorem len_calls (A : Option Addr) (n c : Nat) (w : World) : Calls Tryd.prog 77 #[.slice A n c] w fun e w' => e = .returned (.int .i64 (n : Int)) ∧ w = w' := by
  go_enter Tryd.func77, Tryd.ntmps77
  go_wp2
  go_ret
  exact ⟨by simp, rfl⟩
/-- How far the i-th is. -/
def farOf (L : List Wy) (i : Nat) : Int := (L.getD i (0, 0, 0)).2.2
def less1.T : Bool × List (List Nat × List Nat) := (true, [([], []), ([], []), ([0, 1], [0, 1]), ([2], [2]), ([3], [3]), ([], []), ([], []), ([5, 6], [5, 6]), ([7], [7]), ([8], [8]), ([4, 9], [4, 9]), ([10, 0, 1, 2, 3, 4, 5, 6, 7, 8, 9, 10], [10])])
def less1.B : List Nat := [0, 0, 3, 7, 15, 0, 0, 96, 224, 480, 1023, 2047]
theorem less1.tab : rtab .any (opsOf Tryd.f78 1) = less1.T := by kernel_rfl
theorem less1.bits : waitsOk less1.T.2 less1.B = true := by kernel_rfl
def swap0.T : Bool × List (List Nat × List Nat) := (true, [([], []), ([], []), ([], []), ([], []), ([], []), ([], []), ([4, 5], [4, 5]), ([6], [6]), ([], []), ([], []), ([8, 9], [8, 9]), ([10], [10]), ([0, 1, 0, 1, 4, 5, 6, 7, 11], [0, 1]), ([12, 7, 0, 1, 4, 5, 6, 7, 11], [7, 12]), ([2, 3, 0, 1, 2, 3, 4, 5, 6, 7, 8, 9, 10, 11, 12, 13], [2, 3]), ([14, 11, 13, 0, 1, 2, 3, 4, 5, 6, 7, 8, 9, 10, 11, 12, 13], [11, 14])])
def swap0.B : List Nat := [0, 0, 0, 0, 0, 0, 48, 112, 0, 0, 768, 1792, 4083, 8179, 16383, 32767]
theorem swap0.tab : rtab .any (opsOf Tryd.f79 0) = swap0.T := by kernel_rfl
theorem swap0.bits : waitsOk swap0.T.2 swap0.B = true := by kernel_rfl
set_option maxRecDepth 100000 in
set_option maxHeartbeats 4000000 in
theorem less_calls {b c : Nat} {ok : Nat → Prop} (h : Kd.R kW 87 w n₀ ok (.slice (some ⟨b, 0, none⟩) L.length c) L) (i j : Nat) (hi : i < L.length) (hj : j < L.length) (hl : L.length ≤ 100000) :
    Calls Tryd.prog 78 #[.slice (some ⟨b, 0, none⟩) L.length c, .int .i64 (i : Int), .int .i64 (j : Int)] w fun e w' => e = .returned (.bool (decide (farOf L i < farOf L j))) ∧ Below w.heap.size w w' := by
  obtain ⟨x, hx⟩ : ∃ x, x = farOf L i := ⟨_, rfl⟩
  obtain ⟨y, hy⟩ : ∃ y, y = farOf L j := ⟨_, rfl⟩
  have hfi : farOf L i = L[i].2.2 := by unfold farOf; rw [List.getD_eq_getElem?_getD, List.getElem?_eq_getElem hi]; rfl
  have hfj : farOf L j = L[j].2.2 := by unfold farOf; rw [List.getD_eq_getElem?_getD, List.getElem?_eq_getElem hj]; rfl
  have hci := ways_at h i hi 2 (by decide)
  have hcj := ways_at h j hj 2 (by decide)
  have HS := Aside0.mk (show w.drew.cell? ⟨b, i * 3 + 2, none⟩ = some (.int .i64 x) ∧ w.drew.cell? ⟨b, j * 3 + 2, none⟩ = some (.int .i64 y) from
    ⟨by rw [hx, hfi]; exact hci, by rw [hy, hfj]; exact hcj⟩)
  obtain ⟨n, hn⟩ : ∃ n, n = L.length := ⟨_, rfl⟩
  rw [← hx, ← hy, ← hn]
  have hi2 : (i : Int) < (n : Int) := by omega
  have hj2 : (j : Int) < (n : Int) := by omega
  clear h hx hy hfi hfj hci hcj hn
  go_enter Tryd.func78, Tryd.ntmps78
  go_wp2
  refine start_ (n := 12) (S := (fun w' => w'.cell? ⟨b, i * 3 + 2, none⟩ = some (.int .i64 x) ∧ w'.cell? ⟨b, j * 3 + 2, none⟩ = some (.int .i64 y))) (ds := []) #[false, false, false, false, false, false, false, false, false, false, false, false] (by kernel_rfl) rfl rfl HS.out (fun hHeld => ?_)
  refine with_tabW less1.tab less1.bits (fun HT_ HW_ => ?_)
  refine pure_ (i := 0) (N := some 7) (v := ?_) (a' := ?_) #[true, false, false, false, false, false, false, false, false, false, false, false] rfl rfl (any_of HT_.out (by kernel_rfl)) (fun _ _ _ h => h) (Or.inl ⟨by rfl, ?_⟩) ?_ ?_
  rotate_left
  · intro w'
    go_simp
    with_reducible rfl
  rotate_left
  · simp only [Act.put, List.setIfInBounds_toArray, List.set_cons_zero, List.set_cons_succ, i64_w, i32_w]
    rfl
  refine pure_ (i := 1) (N := some 8) (v := ?_) (a' := ?_) #[true, true, false, false, false, false, false, false, false, false, false, false] rfl rfl (any_of HT_.out (by kernel_rfl)) (fun _ _ _ h => h) (Or.inl ⟨by rfl, ?_⟩) ?_ ?_
  rotate_left
  · intro w'
    go_simp
    with_reducible rfl
  rotate_left
  · simp only [Act.put, List.setIfInBounds_toArray, List.set_cons_zero, List.set_cons_succ, i64_w, i32_w]
    rfl
  refine pure_ (i := 2) (N := some 9) (v := ?_) (a' := ?_) #[true, true, true, false, false, false, false, false, false, false, false, false] rfl rfl (any_of HT_.out (by kernel_rfl)) (fun _ _ _ h => h) (Or.inl ⟨by rfl, ?_⟩) ?_ ?_
  rotate_left
  · intro w'
    go_simp
    with_reducible rfl
  rotate_left
  · simp only [Act.put, List.setIfInBounds_toArray, List.set_cons_zero, List.set_cons_succ, i64_w, i32_w]
    rfl
  refine pure_ (i := 3) (N := some 10) (v := ?_) (a' := ?_) #[true, true, true, true, false, false, false, false, false, false, false, false] rfl rfl (any_of HT_.out (by kernel_rfl)) (fun _ _ _ h => h) (Or.inl ⟨by rfl, ?_⟩) ?_ ?_
  rotate_left
  · intro w'
    go_simp
    with_reducible rfl
  rotate_left
  · simp only [Act.put, List.setIfInBounds_toArray, List.set_cons_zero, List.set_cons_succ, i64_w, i32_w]
    rfl
  refine take_ (i := 4) (N := some 11) (v := ?_) (a' := ?_) #[true, true, true, true, true, false, false, false, false, false, false, false] rfl rfl (take_ofW HT_.out HW_.out (by kernel_rfl)) (fun _ _ _ h => h) (Or.inl ⟨by rfl, ?_⟩) hHeld ?_ ?_
  rotate_left
  · rintro w' ⟨s0, s1⟩
    go_simp
    with_reducible rfl
  rotate_left
  · simp only [Act.put, List.setIfInBounds_toArray, List.set_cons_zero, List.set_cons_succ, i64_w, i32_w]
    rfl
  refine pure_ (i := 5) (N := some 12) (v := ?_) (a' := ?_) #[true, true, true, true, true, true, false, false, false, false, false, false] rfl rfl (any_of HT_.out (by kernel_rfl)) (fun _ _ _ h => h) (Or.inl ⟨by rfl, ?_⟩) ?_ ?_
  rotate_left
  · intro w'
    go_simp
    with_reducible rfl
  rotate_left
  · simp only [Act.put, List.setIfInBounds_toArray, List.set_cons_zero, List.set_cons_succ, i64_w, i32_w]
    rfl
  refine pure_ (i := 6) (N := some 13) (v := ?_) (a' := ?_) #[true, true, true, true, true, true, true, false, false, false, false, false] rfl rfl (any_of HT_.out (by kernel_rfl)) (fun _ _ _ h => h) (Or.inl ⟨by rfl, ?_⟩) ?_ ?_
  rotate_left
  · intro w'
    go_simp
    with_reducible rfl
  rotate_left
  · simp only [Act.put, List.setIfInBounds_toArray, List.set_cons_zero, List.set_cons_succ, i64_w, i32_w]
    rfl
  refine pure_ (i := 7) (N := some 14) (v := ?_) (a' := ?_) #[true, true, true, true, true, true, true, true, false, false, false, false] rfl rfl (any_of HT_.out (by kernel_rfl)) (fun _ _ _ h => h) (Or.inl ⟨by rfl, ?_⟩) ?_ ?_
  rotate_left
  · intro w'
    go_simp
    with_reducible rfl
  rotate_left
  · simp only [Act.put, List.setIfInBounds_toArray, List.set_cons_zero, List.set_cons_succ, i64_w, i32_w]
    rfl
  refine pure_ (i := 8) (N := some 15) (v := ?_) (a' := ?_) #[true, true, true, true, true, true, true, true, true, false, false, false] rfl rfl (any_of HT_.out (by kernel_rfl)) (fun _ _ _ h => h) (Or.inl ⟨by rfl, ?_⟩) ?_ ?_
  rotate_left
  · intro w'
    go_simp
    with_reducible rfl
  rotate_left
  · simp only [Act.put, List.setIfInBounds_toArray, List.set_cons_zero, List.set_cons_succ, i64_w, i32_w]
    rfl
  refine take_ (i := 9) (N := some 16) (v := ?_) (a' := ?_) #[true, true, true, true, true, true, true, true, true, true, false, false] rfl rfl (take_ofW HT_.out HW_.out (by kernel_rfl)) (fun _ _ _ h => h) (Or.inl ⟨by rfl, ?_⟩) hHeld ?_ ?_
  rotate_left
  · rintro w' ⟨s0, s1⟩
    go_simp
    with_reducible rfl
  rotate_left
  · simp only [Act.put, List.setIfInBounds_toArray, List.set_cons_zero, List.set_cons_succ, i64_w, i32_w]
    rfl
  refine pure_ (i := 10) (N := some 17) (v := ?_) (a' := ?_) #[true, true, true, true, true, true, true, true, true, true, true, false] rfl rfl (any_of HT_.out (by kernel_rfl)) (fun _ _ _ h => h) (Or.inl ⟨by rfl, ?_⟩) ?_ ?_
  rotate_left
  · intro w'
    go_simp
    with_reducible rfl
  rotate_left
  · simp only [Act.put, List.setIfInBounds_toArray, List.set_cons_zero, List.set_cons_succ, i64_w, i32_w]
    rfl
  refine pure_ (i := 11) (N := some 6) (v := ?_) (a' := ?_) #[true, true, true, true, true, true, true, true, true, true, true, true] rfl rfl (any_of HT_.out (by kernel_rfl)) (fun _ _ _ h => h) (Or.inl ⟨by rfl, ?_⟩) ?_ ?_
  rotate_left
  · intro w'
    go_simp
    with_reducible rfl
  rotate_left
  · simp only [Act.put, List.setIfInBounds_toArray, List.set_cons_zero, List.set_cons_succ, i64_w, i32_w]
    rfl
  refine done_ (done_of HT_.out (by kernel_rfl)) ?_
  go_wp2 
  go_ret
  exact ⟨by simp, below_drew1 (Below.refl _ _)⟩
theorem ways_there {b c : Nat} {ok : Nat → Prop} (h : Kd.R kW 87 w n₀ ok (.slice (some ⟨b, 0, none⟩) L.length c) L) (i : Nat) (hi : i < L.length) : w.there b (i * 3) 3 := by
  intro j hj
  refine ⟨?_, ?_⟩
  · rw [ways_at h i hi j hj]
    obtain rfl | rfl | rfl : j = 0 ∨ j = 1 ∨ j = 2 := by omega
    all_goals rfl
  · obtain ⟨_, inner, hown, hr⟩ := h
    rcases hown.2 with ⟨hv, _⟩ | ⟨b', cap, cur, hv, _, hh, _⟩
    · cases hv
    · injection hv with ha
      injection ha with ha
      injection ha with hb
      subst hb
      exact blk_frozen hh _
theorem ways_set {b c : Nat} (h : Kd.R kW 87 w n₀ (fun _ => True) (.slice (some ⟨b, 0, none⟩) L.length c) L) (i : Nat) (hi : i < L.length) (x : Wy) :
    Kd.R kW 87 (w.setCells b (i * 3) (wyC x)) n₀ (fun _ => True) (.slice (some ⟨b, 0, none⟩) L.length c) (L.set i x) ∧ w.grownBy (w.setCells b (i * 3) (wyC x)) (some b) := by
  have hs := Kd.R_seg (okp := fun _ => False) (c := wyC L[i]) (seg := wyC x) (j := 0) (x' := x) h (i : Int) (by omega) (by omega) rfl (fun j u hu => by
    have hj : j < 3 := (List.getElem?_eq_some_iff.1 hu).1
    have h2 := ways_at h i hi j hj
    rw [hu] at h2
    exact h2) (by show 0 + 3 ≤ 3; decide) (kW_M _ _ _ x) (fun k hk => hk.elim)
  exact hs
theorem wyC_one (x : Wy) : (wyC x).toArray.all (·.oneCell') = true := all_oneCell_toArray (fun v hv => by
  simp only [wyC, List.mem_cons, List.not_mem_nil, or_false] at hv
  rcases hv with rfl | rfl | rfl <;> rfl)
/-- Two ways swapped. -/
def swapL (L : List Wy) (i j : Nat) : List Wy := (L.set i (L.getD j (0, 0, 0))).set j (L.getD i (0, 0, 0))
theorem swapL_length (L : List Wy) (i j : Nat) : (swapL L i j).length = L.length := by simp [swapL]
theorem getD_at (L : List Wy) (i : Nat) (h : i < L.length) : L.getD i (0, 0, 0) = L[i] := by rw [List.getD_eq_getElem?_getD, List.getElem?_eq_getElem h]; rfl
set_option maxRecDepth 100000 in
set_option maxHeartbeats 4000000 in
theorem swap_calls {b c : Nat} (h : Kd.R kW 87 w n₀ (fun _ => True) (.slice (some ⟨b, 0, none⟩) L.length c) L) (i j : Nat) (hi : i < L.length) (hj : j < L.length) (hl : L.length ≤ 100000) :
    Calls Tryd.prog 79 #[.slice (some ⟨b, 0, none⟩) L.length c, .int .i64 (i : Int), .int .i64 (j : Int)] w fun e w' => e = .returned (.tuple #[]) ∧ Kd.R kW 87 w' n₀ (fun _ => True) (.slice (some ⟨b, 0, none⟩) L.length c) (swapL L i j) ∧ w.grownBy w' (some b) := by
  have hR := Kd.R_below h (below_drew1 (Below.refl w.heap.size w))
  obtain ⟨x, hx⟩ : ∃ x, x = L[i] := ⟨_, rfl⟩
  obtain ⟨y, hy⟩ : ∃ y, y = L[j] := ⟨_, rfl⟩
  have hci := fun q (hq : q < 3) => ways_at hR i hi q hq
  have hcj := fun q (hq : q < 3) => ways_at hR j hj q hq
  rw [← hx] at hci
  rw [← hy] at hcj
  have HS := Aside0.mk (show w.drew.cell? ⟨b, i * 3, none⟩ = some (.int .i64 x.1) ∧ w.drew.cell? ⟨b, i * 3 + 1, none⟩ = some (.int .i64 x.2.1) ∧ w.drew.cell? ⟨b, i * 3 + 2, none⟩ = some (.int .i64 x.2.2) ∧ w.drew.cell? ⟨b, j * 3, none⟩ = some (.int .i64 y.1) ∧ w.drew.cell? ⟨b, j * 3 + 1, none⟩ = some (.int .i64 y.2.1) ∧ w.drew.cell? ⟨b, j * 3 + 2, none⟩ = some (.int .i64 y.2.2) from
    ⟨hci 0 (by decide), hci 1 (by decide), hci 2 (by decide), hcj 0 (by decide), hcj 1 (by decide), hcj 2 (by decide)⟩)
  have hs1 := ways_set hR i hi y
  have hs2 := ways_set (L := L.set i y) (by rw [List.length_set]; exact hs1.1) j (by rw [List.length_set]; exact hj) x
  rw [List.length_set] at hs2
  have hsw : (L.set i y).set j x = swapL L i j := by unfold swapL; rw [getD_at L i hi, getD_at L j hj, hx, hy]
  rw [hsw] at hs2
  have HT1 := Aside0.mk (ways_there hR i hi)
  have HT2 := Aside0.mk (ways_there (L := L.set i y) (by rw [List.length_set]; exact hs1.1) j (by rw [List.length_set]; exact hj))
  have HF := Aside0.mk (And.intro hs2.1 (show w.grownBy ((w.drew.setCells b (i * 3) (wyC y)).setCells b (j * 3) (wyC x)) (some b) from World.grownBy.trans (World.grownBy.trans (grown_below (below_drew1 (Below.refl _ _)) _) hs1.2) hs2.2))
  obtain ⟨n, hn⟩ : ∃ n, n = L.length := ⟨_, rfl⟩
  rw [← hn]
  rw [← hn] at HF
  have hi2 : (i : Int) < (n : Int) := by omega
  have hj2 : (j : Int) < (n : Int) := by omega
  obtain ⟨x0, x1, x2⟩ := x
  obtain ⟨y0, y1, y2⟩ := y
  clear h hR hx hy hci hcj hs1 hs2 hsw hn
  go_enter Tryd.func79, Tryd.ntmps79
  go_wp2
  refine start_ (n := 16) (S := (fun w' => w'.cell? ⟨b, i * 3, none⟩ = some (.int .i64 x0) ∧ w'.cell? ⟨b, i * 3 + 1, none⟩ = some (.int .i64 x1) ∧ w'.cell? ⟨b, i * 3 + 2, none⟩ = some (.int .i64 x2) ∧ w'.cell? ⟨b, j * 3, none⟩ = some (.int .i64 y0) ∧ w'.cell? ⟨b, j * 3 + 1, none⟩ = some (.int .i64 y1) ∧ w'.cell? ⟨b, j * 3 + 2, none⟩ = some (.int .i64 y2))) (ds := [13, 15]) #[false, false, false, false, false, false, false, false, false, false, false, false, false, false, false, false] (by kernel_rfl) rfl rfl HS.out (fun hHeld => ?_)
  refine with_tabW swap0.tab swap0.bits (fun HT_ HW_ => ?_)
  refine pure_ (i := 0) (N := some 6) (v := ?_) (a' := ?_) #[true, false, false, false, false, false, false, false, false, false, false, false, false, false, false, false] rfl rfl (any_of HT_.out (by kernel_rfl)) (fun _ _ _ h => h) (Or.inl ⟨by rfl, ?_⟩) ?_ ?_
  rotate_left
  · intro w'
    go_simp
    with_reducible rfl
  rotate_left
  · simp only [Act.put, List.setIfInBounds_toArray, List.set_cons_zero, List.set_cons_succ, i64_w, i32_w]
    rfl
  refine pure_ (i := 1) (N := some 7) (v := ?_) (a' := ?_) #[true, true, false, false, false, false, false, false, false, false, false, false, false, false, false, false] rfl rfl (any_of HT_.out (by kernel_rfl)) (fun _ _ _ h => h) (Or.inl ⟨by rfl, ?_⟩) ?_ ?_
  rotate_left
  · intro w'
    go_simp
    with_reducible rfl
  rotate_left
  · simp only [Act.put, List.setIfInBounds_toArray, List.set_cons_zero, List.set_cons_succ, i64_w, i32_w]
    rfl
  refine pure_ (i := 2) (N := some 8) (v := ?_) (a' := ?_) #[true, true, true, false, false, false, false, false, false, false, false, false, false, false, false, false] rfl rfl (any_of HT_.out (by kernel_rfl)) (fun _ _ _ h => h) (Or.inl ⟨by rfl, ?_⟩) ?_ ?_
  rotate_left
  · intro w'
    go_simp
    with_reducible rfl
  rotate_left
  · simp only [Act.put, List.setIfInBounds_toArray, List.set_cons_zero, List.set_cons_succ, i64_w, i32_w]
    rfl
  refine pure_ (i := 3) (N := some 9) (v := ?_) (a' := ?_) #[true, true, true, true, false, false, false, false, false, false, false, false, false, false, false, false] rfl rfl (any_of HT_.out (by kernel_rfl)) (fun _ _ _ h => h) (Or.inl ⟨by rfl, ?_⟩) ?_ ?_
  rotate_left
  · intro w'
    go_simp
    with_reducible rfl
  rotate_left
  · simp only [Act.put, List.setIfInBounds_toArray, List.set_cons_zero, List.set_cons_succ, i64_w, i32_w]
    rfl
  refine pure_ (i := 4) (N := some 10) (v := ?_) (a' := ?_) #[true, true, true, true, true, false, false, false, false, false, false, false, false, false, false, false] rfl rfl (any_of HT_.out (by kernel_rfl)) (fun _ _ _ h => h) (Or.inl ⟨by rfl, ?_⟩) ?_ ?_
  rotate_left
  · intro w'
    go_simp
    with_reducible rfl
  rotate_left
  · simp only [Act.put, List.setIfInBounds_toArray, List.set_cons_zero, List.set_cons_succ, i64_w, i32_w]
    rfl
  refine pure_ (i := 5) (N := some 11) (v := ?_) (a' := ?_) #[true, true, true, true, true, true, false, false, false, false, false, false, false, false, false, false] rfl rfl (any_of HT_.out (by kernel_rfl)) (fun _ _ _ h => h) (Or.inl ⟨by rfl, ?_⟩) ?_ ?_
  rotate_left
  · intro w'
    go_simp
    with_reducible rfl
  rotate_left
  · simp only [Act.put, List.setIfInBounds_toArray, List.set_cons_zero, List.set_cons_succ, i64_w, i32_w]
    rfl
  refine pure_ (i := 6) (N := some 12) (v := ?_) (a' := ?_) #[true, true, true, true, true, true, true, false, false, false, false, false, false, false, false, false] rfl rfl (any_of HT_.out (by kernel_rfl)) (fun _ _ _ h => h) (Or.inl ⟨by rfl, ?_⟩) ?_ ?_
  rotate_left
  · intro w'
    go_simp
    with_reducible rfl
  rotate_left
  · simp only [Act.put, List.setIfInBounds_toArray, List.set_cons_zero, List.set_cons_succ, i64_w, i32_w]
    rfl
  refine take_ (i := 7) (N := some 13) (v := ?_) (a' := ?_) #[true, true, true, true, true, true, true, true, false, false, false, false, false, false, false, false] rfl rfl (take_ofW HT_.out HW_.out (by kernel_rfl)) (fun _ _ _ h => h) (Or.inl ⟨by rfl, ?_⟩) hHeld ?_ ?_
  rotate_left
  · rintro w' ⟨s0, s1, s2, s3, s4, s5⟩
    go_simp
    with_reducible rfl
  rotate_left
  · simp only [Act.put, List.setIfInBounds_toArray, List.set_cons_zero, List.set_cons_succ, i64_w, i32_w]
    rfl
  refine pure_ (i := 8) (N := some 14) (v := ?_) (a' := ?_) #[true, true, true, true, true, true, true, true, true, false, false, false, false, false, false, false] rfl rfl (any_of HT_.out (by kernel_rfl)) (fun _ _ _ h => h) (Or.inl ⟨by rfl, ?_⟩) ?_ ?_
  rotate_left
  · intro w'
    go_simp
    with_reducible rfl
  rotate_left
  · simp only [Act.put, List.setIfInBounds_toArray, List.set_cons_zero, List.set_cons_succ, i64_w, i32_w]
    rfl
  refine pure_ (i := 9) (N := some 15) (v := ?_) (a' := ?_) #[true, true, true, true, true, true, true, true, true, true, false, false, false, false, false, false] rfl rfl (any_of HT_.out (by kernel_rfl)) (fun _ _ _ h => h) (Or.inl ⟨by rfl, ?_⟩) ?_ ?_
  rotate_left
  · intro w'
    go_simp
    with_reducible rfl
  rotate_left
  · simp only [Act.put, List.setIfInBounds_toArray, List.set_cons_zero, List.set_cons_succ, i64_w, i32_w]
    rfl
  refine pure_ (i := 10) (N := some 16) (v := ?_) (a' := ?_) #[true, true, true, true, true, true, true, true, true, true, true, false, false, false, false, false] rfl rfl (any_of HT_.out (by kernel_rfl)) (fun _ _ _ h => h) (Or.inl ⟨by rfl, ?_⟩) ?_ ?_
  rotate_left
  · intro w'
    go_simp
    with_reducible rfl
  rotate_left
  · simp only [Act.put, List.setIfInBounds_toArray, List.set_cons_zero, List.set_cons_succ, i64_w, i32_w]
    rfl
  refine take_ (i := 11) (N := some 17) (v := ?_) (a' := ?_) #[true, true, true, true, true, true, true, true, true, true, true, true, false, false, false, false] rfl rfl (take_ofW HT_.out HW_.out (by kernel_rfl)) (fun _ _ _ h => h) (Or.inl ⟨by rfl, ?_⟩) hHeld ?_ ?_
  rotate_left
  · rintro w' ⟨s0, s1, s2, s3, s4, s5⟩
    go_simp
    with_reducible rfl
  rotate_left
  · simp only [Act.put, List.setIfInBounds_toArray, List.set_cons_zero, List.set_cons_succ, i64_w, i32_w]
    rfl
  refine pure_ (i := 12) (N := some 18) (v := ?_) (a' := ?_) #[true, true, true, true, true, true, true, true, true, true, true, true, true, false, false, false] rfl rfl (any_of HT_.out (by kernel_rfl)) (fun _ _ _ h => h) (Or.inl ⟨by rfl, ?_⟩) ?_ ?_
  rotate_left
  · intro w'
    go_simp
    with_reducible rfl
  rotate_left
  · simp only [Act.put, List.setIfInBounds_toArray, List.set_cons_zero, List.set_cons_succ, i64_w, i32_w]
    rfl
  refine last_ (i := 13) (N := none) #[true, true, true, true, true, true, true, true, true, true, true, true, true, true, false, false] rfl rfl (one_of HT_.out (by kernel_rfl)) (by decide) (fun K hK => ?_)
  rw [if_pos (by rfl)]
  refine wp_store_mid 87 (.tmp 18) (.tmp 13) rfl b (i * 3) (wyC (y0, y1, y2)).toArray (by rfl) (by rfl) HT1.out (by kernel_rfl) (wyC_one _) ?_
  refine hK.out _ _ ?_
  clear hK K
  refine pure_ (i := 14) (N := some 19) (v := ?_) (a' := ?_) #[true, true, true, true, true, true, true, true, true, true, true, true, true, true, true, false] rfl rfl (any_of HT_.out (by kernel_rfl)) (fun _ _ _ h => h) (Or.inl ⟨by rfl, ?_⟩) ?_ ?_
  rotate_left
  · intro w'
    go_simp
    with_reducible rfl
  rotate_left
  · simp only [Act.put, List.setIfInBounds_toArray, List.set_cons_zero, List.set_cons_succ, i64_w, i32_w]
    rfl
  refine last_ (i := 15) (N := none) #[true, true, true, true, true, true, true, true, true, true, true, true, true, true, true, true] rfl rfl (one_of HT_.out (by kernel_rfl)) (by decide) (fun K hK => ?_)
  rw [if_pos (by rfl)]
  refine wp_store_mid 87 (.tmp 19) (.tmp 17) rfl b (j * 3) (wyC (x0, x1, x2)).toArray (by rfl) (by rfl) HT2.out (by kernel_rfl) (wyC_one _) ?_
  refine hK.out _ _ ?_
  clear hK K
  refine done_ (done_of HT_.out (by kernel_rfl)) ?_
  generalize ((w.drew.setCells b (i * 3) (wyC (y0, y1, y2))).setCells b (j * 3) (wyC (x0, x1, x2))) = w2 at HF
  go_wp2
  refine bodyPost_end (results_none rfl _ _ _) rfl ?_
  exact ⟨by simp, HF.out.1, HF.out.2⟩
end Go.Proofs.YteileaajmnbmpaaDoor.P
