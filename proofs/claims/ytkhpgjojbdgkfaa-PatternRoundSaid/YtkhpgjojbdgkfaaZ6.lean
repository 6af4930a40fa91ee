-- Made by xprint.py (an own driver round the kit's print.py), with contracts of this session's own. Lean checks it.
import Derived.Test.YtkhpgjojbdgkfaaZ0
import Derived.Test.YtkhpgjojbdgkfaaZ2
import Derived.Test.YtkhpgjojbdgkfaaZ4
import Derived.Test.YtkhpgjojbdgkfaaZ5
namespace Go.Proofs.Ytkhpgjojbdgkfaa.Z
open Go.RowKit Go.Proofs.YtkhpgjojbdgkfaaW.PrintWords Go.Proofs.YtkhpgjojbdgkfaaW.PrintLast Go.Proofs.YtkhpgjojbdgkfaaW.PrintMore
attribute [local go_sem] max2_int min2_int max_two min_two max_three min_three max_four min_four   -- for this text's walks alone
set_option linter.unusedVariables false
set_option linter.unusedSimpArgs false

/-! ### shuttlelaw10_PatternRound: function 6 -/
mutual
def shuttlelaw10_PatternRound.l0 : Nat → Int → Int → Int → Int → Int → Int → Int → Bool → Bool → Bool → Bool → Option (Bool)
  | 0, _, _, _, _, _, _, _, _, _, _, _ => none
  | k + 1, x5, x6, x7, x8, x9, x10, x12, x122000, x122001, x122002, x122003 => if x12 < 4 then ((pattern_Version.f x5 (wrap64 (x6 + x12))).bind fun bt123 => (if bt123.2 = 0 then (if bt123.1 < 0 then (shuttlelaw10_PatternRound.j1 k x5 x6 x7 x8 x9 x10 x12 bt123.1 true x122000 x122001 x122002 x122003) else (if bt123.1 > 3 then (shuttlelaw10_PatternRound.j1 k x5 x6 x7 x8 x9 x10 x12 bt123.1 true x122000 x122001 x122002 x122003) else (if bt123.1 = 0 then (shuttlelaw10_PatternRound.j1 k x5 x6 x7 x8 x9 x10 x12 0 x122000 x122000 x122001 x122002 x122003) else (if bt123.1 = 1 then (shuttlelaw10_PatternRound.j1 k x5 x6 x7 x8 x9 x10 x12 1 x122001 x122000 x122001 x122002 x122003) else (if bt123.1 = 2 then (shuttlelaw10_PatternRound.j1 k x5 x6 x7 x8 x9 x10 x12 2 x122002 x122000 x122001 x122002 x122003) else (if bt123.1 = 3 then (shuttlelaw10_PatternRound.j1 k x5 x6 x7 x8 x9 x10 x12 3 x122003 x122000 x122001 x122002 x122003) else (none))))))) else (shuttlelaw10_PatternRound.j1 k x5 x6 x7 x8 x9 x10 x12 bt123.1 true x122000 x122001 x122002 x122003))) else ((shuttlelaw10_stands.f k).bind fun t122 => (if t122 = true then (if x8 = 0 then (if x10 = 0 then (some (x7 == x9)) else (some false)) else (some false)) else (some false)))
def shuttlelaw10_PatternRound.j1 : Nat → Int → Int → Int → Int → Int → Int → Int → Int → Bool → Bool → Bool → Bool → Bool → Option (Bool)
  | 0, _, _, _, _, _, _, _, _, _, _, _, _, _ => none
  | k + 1, x5, x6, x7, x8, x9, x10, x12, x13, x64, x122000, x122001, x122002, x122003 => if x64 = true then (some false) else (if x13 = 0 then ((pattern_Stream.f 0 (wrap64 (x6 + x12))).bind fun bt131 => (if bt131.2 = 0 then (if bt131.1 = x5 then (shuttlelaw10_PatternRound.l0 k x5 x6 x7 x8 x9 x10 (wrap64 (x12 + 1)) true x122001 x122002 x122003) else (some false)) else (some false))) else (if x13 = 1 then ((pattern_Stream.f 1 (wrap64 (x6 + x12))).bind fun bt129 => (if bt129.2 = 0 then (if bt129.1 = x5 then (shuttlelaw10_PatternRound.l0 k x5 x6 x7 x8 x9 x10 (wrap64 (x12 + 1)) x122000 true x122002 x122003) else (some false)) else (some false))) else (if x13 = 2 then ((pattern_Stream.f 2 (wrap64 (x6 + x12))).bind fun bt127 => (if bt127.2 = 0 then (if bt127.1 = x5 then (shuttlelaw10_PatternRound.l0 k x5 x6 x7 x8 x9 x10 (wrap64 (x12 + 1)) x122000 x122001 true x122003) else (some false)) else (some false))) else (if x13 = 3 then ((pattern_Stream.f 3 (wrap64 (x6 + x12))).bind fun bt125 => (if bt125.2 = 0 then (if bt125.1 = x5 then (shuttlelaw10_PatternRound.l0 k x5 x6 x7 x8 x9 x10 (wrap64 (x12 + 1)) x122000 x122001 x122002 true) else (some false)) else (some false))) else (none)))))
end
def shuttlelaw10_PatternRound.f (k : Nat) (a0 : Int) (a1 : Int) : Option (Bool) := (pattern_Version.f (wrap64 (Int.tmod (IntKind.u64.wrap (a0)) 4)) (wrap64 (Int.tmod (IntKind.u64.wrap (a1)) 1099511627776))).bind fun bt117 => ((pattern_Version.f (wrap64 (Int.tmod (IntKind.u64.wrap (a0)) 4)) (wrap64 ((wrap64 (Int.tmod (IntKind.u64.wrap (a1)) 1099511627776)) + 4))).bind fun bt119 => (shuttlelaw10_PatternRound.l0 k (wrap64 (Int.tmod (IntKind.u64.wrap (a0)) 4)) (wrap64 (Int.tmod (IntKind.u64.wrap (a1)) 1099511627776)) bt117.1 bt117.2 bt119.1 bt119.2 0 false false false false))
theorem shuttlelaw10_PatternRound.mono_l : ∀ k, (∀ y0 y1 y2 y3 y4 y5 y6 y7 y8 y9 y10, LeO (shuttlelaw10_PatternRound.l0 k y0 y1 y2 y3 y4 y5 y6 y7 y8 y9 y10) (shuttlelaw10_PatternRound.l0 (k + 1) y0 y1 y2 y3 y4 y5 y6 y7 y8 y9 y10)) ∧ (∀ y0 y1 y2 y3 y4 y5 y6 y7 y8 y9 y10 y11 y12, LeO (shuttlelaw10_PatternRound.j1 k y0 y1 y2 y3 y4 y5 y6 y7 y8 y9 y10 y11 y12) (shuttlelaw10_PatternRound.j1 (k + 1) y0 y1 y2 y3 y4 y5 y6 y7 y8 y9 y10 y11 y12))
  | 0 => ⟨fun _ _ _ _ _ _ _ _ _ _ _ r h => by simp [shuttlelaw10_PatternRound.l0] at h, fun _ _ _ _ _ _ _ _ _ _ _ _ _ r h => by simp [shuttlelaw10_PatternRound.j1] at h⟩
  | k + 1 => by
    obtain ⟨ih0, ih1⟩ := shuttlelaw10_PatternRound.mono_l k
    refine ⟨?_, ?_⟩
    · intro y0 y1 y2 y3 y4 y5 y6 y7 y8 y9 y10
      unfold shuttlelaw10_PatternRound.l0
      repeat' first
      | (with_reducible exact ih0 _ _ _ _ _ _ _ _ _ _ _)
      | (with_reducible exact ih1 _ _ _ _ _ _ _ _ _ _ _ _ _)
      | (with_reducible exact shuttlelaw10_stands.mono _)
      | (with_reducible exact LeO.refl _)
      | (with_reducible exact LeO.none _)
      | (with_reducible refine LeO.ite ?_ ?_)
      | (with_reducible refine LeO.bind ?_ (fun _ => ?_))
      | exact ih0 _ _ _ _ _ _ _ _ _ _ _
      | exact ih1 _ _ _ _ _ _ _ _ _ _ _ _ _
      | exact shuttlelaw10_stands.mono _
      | exact LeO.none _
      | refine LeO.ite ?_ ?_
      | refine LeO.bind ?_ (fun _ => ?_)
    · intro y0 y1 y2 y3 y4 y5 y6 y7 y8 y9 y10 y11 y12
      unfold shuttlelaw10_PatternRound.j1
      repeat' first
      | (with_reducible exact ih0 _ _ _ _ _ _ _ _ _ _ _)
      | (with_reducible exact ih1 _ _ _ _ _ _ _ _ _ _ _ _ _)
      | (with_reducible exact shuttlelaw10_stands.mono _)
      | (with_reducible exact LeO.refl _)
      | (with_reducible exact LeO.none _)
      | (with_reducible refine LeO.ite ?_ ?_)
      | (with_reducible refine LeO.bind ?_ (fun _ => ?_))
      | exact ih0 _ _ _ _ _ _ _ _ _ _ _
      | exact ih1 _ _ _ _ _ _ _ _ _ _ _ _ _
      | exact shuttlelaw10_stands.mono _
      | exact LeO.none _
      | refine LeO.ite ?_ ?_
      | refine LeO.bind ?_ (fun _ => ?_)
theorem shuttlelaw10_PatternRound.mono : ∀ a0 a1 k, LeO (shuttlelaw10_PatternRound.f k a0 a1) (shuttlelaw10_PatternRound.f (k + 1) a0 a1) := by
  intro a0 a1 k
  obtain ⟨ih0, ih1⟩ := shuttlelaw10_PatternRound.mono_l k
  unfold shuttlelaw10_PatternRound.f
  repeat' first
      | (with_reducible exact ih0 _ _ _ _ _ _ _ _ _ _ _)
      | (with_reducible exact ih1 _ _ _ _ _ _ _ _ _ _ _ _ _)
      | (with_reducible exact shuttlelaw10_stands.mono _)
      | (with_reducible exact LeO.refl _)
      | (with_reducible exact LeO.none _)
      | (with_reducible refine LeO.ite ?_ ?_)
      | (with_reducible refine LeO.bind ?_ (fun _ => ?_))
      | exact ih0 _ _ _ _ _ _ _ _ _ _ _
      | exact ih1 _ _ _ _ _ _ _ _ _ _ _ _ _
      | exact shuttlelaw10_stands.mono _
      | exact LeO.none _
      | refine LeO.ite ?_ ?_
      | refine LeO.bind ?_ (fun _ => ?_)
set_option maxHeartbeats 8000000 in
set_option maxRecDepth 100000 in
theorem shuttlelaw10_PatternRound.calls (k : Nat) (a0 : Int) (a1 : Int) (r : Bool) (w : World) (h : shuttlelaw10_PatternRound.f k a0 a1 = some r) :
    Calls Try.prog 6 #[.int .i64 a0, .int .i64 a1] w fun e w' => e = .returned (.bool r) ∧ Below w.heap.size w w' := by
  have hu38 := Try.underlying38
  have HB := Aside0.mk (Below.refl w.heap.size w)
  have H : ((pattern_Version.f (wrap64 (Int.tmod (IntKind.u64.wrap (a0)) 4)) (wrap64 (Int.tmod (IntKind.u64.wrap (a1)) 1099511627776))).bind fun bt117 => ((pattern_Version.f (wrap64 (Int.tmod (IntKind.u64.wrap (a0)) 4)) (wrap64 ((wrap64 (Int.tmod (IntKind.u64.wrap (a1)) 1099511627776)) + 4))).bind fun bt119 => (shuttlelaw10_PatternRound.l0 k (wrap64 (Int.tmod (IntKind.u64.wrap (a0)) 4)) (wrap64 (Int.tmod (IntKind.u64.wrap (a1)) 1099511627776)) bt117.1 bt117.2 bt119.1 bt119.2 0 false false false false))) = some r := h
  clear h
  replace H := Option.bind_eq_some_iff.mp H
  obtain ⟨⟨t117, t118⟩, A30, H⟩ := H
  replace H : ((pattern_Version.f (wrap64 (Int.tmod (IntKind.u64.wrap (a0)) 4)) (wrap64 ((wrap64 (Int.tmod (IntKind.u64.wrap (a1)) 1099511627776)) + 4))).bind fun bt119 => (shuttlelaw10_PatternRound.l0 k (wrap64 (Int.tmod (IntKind.u64.wrap (a0)) 4)) (wrap64 (Int.tmod (IntKind.u64.wrap (a1)) 1099511627776)) t117 t118 bt119.1 bt119.2 0 false false false false)) = some r := H
  have A3 := Aside0.mk A30
  clear A30
  replace H := Option.bind_eq_some_iff.mp H
  obtain ⟨⟨t119, t120⟩, A40, H⟩ := H
  replace H : (shuttlelaw10_PatternRound.l0 k (wrap64 (Int.tmod (IntKind.u64.wrap (a0)) 4)) (wrap64 (Int.tmod (IntKind.u64.wrap (a1)) 1099511627776)) t117 t118 t119 t120 0 false false false false) = some r := H
  have A4 := Aside0.mk A40
  clear A40
  have H' := Aside0.mk H
  clear H
  go_enter Try.func6, Try.ntmps6
  go_wp2_with (first | ((with_reducible refine gate_callee (f := 19) rfl ?_); refine goesL_ (some 28) rfl rfl Try.func19 (by kernel_rfl) rfl #[.int .i64 (wrap64 (Int.tmod (IntKind.u64.wrap (a0)) 4)), .int .i64 (wrap64 (Int.tmod (IntKind.u64.wrap (a1)) 1099511627776))] rfl (by (try simp only [List.map_toArray, List.map_cons, List.map_nil]); first | done | rfl | (simp only [List.length_drop, List.length_take]; rfl)) ?_; (with_reducible refine (pattern_Version.calls (wrap64 (Int.tmod (IntKind.u64.wrap (a0)) 4)) (wrap64 (Int.tmod (IntKind.u64.wrap (a1)) 1099511627776)) t117 t118 _ A3.out).mono ?_); rintro e w' ⟨rfl, ⟨nd, rfl⟩⟩; refine ⟨_, rfl, ?_⟩) | ((with_reducible refine gate_callee (f := 19) rfl ?_); refine goesL_ (some 35) rfl rfl Try.func19 (by kernel_rfl) rfl #[.int .i64 (wrap64 (Int.tmod (IntKind.u64.wrap (a0)) 4)), .int .i64 (wrap64 ((wrap64 (Int.tmod (IntKind.u64.wrap (a1)) 1099511627776)) + 4))] rfl (by (try simp only [List.map_toArray, List.map_cons, List.map_nil]); first | done | rfl | (simp only [List.length_drop, List.length_take]; rfl)) ?_; (with_reducible refine (pattern_Version.calls (wrap64 (Int.tmod (IntKind.u64.wrap (a0)) 4)) (wrap64 ((wrap64 (Int.tmod (IntKind.u64.wrap (a1)) 1099511627776)) + 4)) t119 t120 _ A4.out).mono ?_); rintro e w' ⟨rfl, ⟨nd, rfl⟩⟩; refine ⟨_, rfl, ?_⟩) | ((with_reducible refine gate_dst (N := 11) rfl ?_); refine box_event ?hg (N := 11) ?hd (cs := #[.bool false, .bool false, .bool false, .bool false]) (t := 38) ?hr ?_; (case hd => rfl); (case hg => rfl); (case hr => first | (go_simp; done) | (go_simp; rfl)); intro gb121 hg w5 hbox hb; have n0_ := Aside0.mk (below_step (by repeat (first | (with_reducible first | exact HB.out | apply below_alloc | apply pw_below_drewN | apply below_drew1) | exact HB.out)) hb); have n1_ := Aside0.mk (hbox); have n2_ := Aside0.mk ((by rw [hg]; exact (below_size (by repeat (first | (with_reducible first | exact HB.out | apply below_alloc | apply pw_below_drewN | apply below_drew1) | exact HB.out))) : w.heap.size ≤ gb121)); have n3_ := Aside0.mk ((by rw [hg]; exact (below_size (by repeat (first | (with_reducible first | exact HB.out | apply below_alloc | apply pw_below_drewN | apply below_drew1) | exact HB.out))) : w.heap.size ≤ gb121)); clear HB; have HB := n0_; have BK121 := n1_; have GW121 := n2_; have GE121 := n3_; clear n0_ n1_ n2_ n3_; clear hb hbox hg))
  go_loopg [12] k (fun kq v12 w' => ∃ (x12_1 : Int) (x122000_1 : Bool) (x122001_1 : Bool) (x122002_1 : Bool) (x122003_1 : Bool), v12 = .int .i64 x12_1 ∧ Aside0 (shuttlelaw10_PatternRound.l0 kq (wrap64 (Int.tmod (IntKind.u64.wrap (a0)) 4)) (wrap64 (Int.tmod (IntKind.u64.wrap (a1)) 1099511627776)) t117 t118 t119 t120 x12_1 x122000_1 x122001_1 x122002_1 x122003_1 = some r) ∧ Aside0 (kq ≤ k) ∧ Aside0 (w'.heap[gb121]? = some (.cells #[.bool x122000_1, .bool x122001_1, .bool x122002_1, .bool x122003_1] 38 (0, 0))) ∧ Aside0 (Below w.heap.size w w'))
  case atStart => exact ⟨(0), (false), (false), (false), (false), (by first | rfl | (simp; done) | (simp [*]; done)), H', ⟨Nat.le_refl _⟩, ⟨by (with_reducible repeat (first | refine blk_drewN ?_ _ | refine blk_drew ?_ | refine blk_alloc ?_ _)); exact BK121.out⟩, ⟨by repeat (first | (with_reducible first | exact HB.out | apply below_alloc | apply pw_below_drewN | apply below_drew1 | refine below_set ?_ GE121.out) | exact HB.out)⟩⟩
  case round =>
    clear H'
    try clear c1
    try clear p2
    obtain ⟨x12_1, x122000_1, x122001_1, x122002_1, x122003_1, rfl, HA, HK1, BK121, HB⟩ := hrel
    cases gk with
    | zero => exact absurd HA.out (by simp [shuttlelaw10_PatternRound.l0])
    | succ k1 =>
      have H := HA.out
      clear HA
      simp only [shuttlelaw10_PatternRound.l0] at H
      by_cases c6 : x12_1 < 4
      · rw [if_pos c6] at H
        have c6b0 : decide (x12_1 < 4) = true := decide_eq_true c6
        clear c6
        replace H := Option.bind_eq_some_iff.mp H
        obtain ⟨⟨t123, t124⟩, A70, H⟩ := H
        replace H : (if t124 = 0 then (if t123 < 0 then (shuttlelaw10_PatternRound.j1 k1 (wrap64 (Int.tmod (IntKind.u64.wrap (a0)) 4)) (wrap64 (Int.tmod (IntKind.u64.wrap (a1)) 1099511627776)) t117 t118 t119 t120 x12_1 t123 true x122000_1 x122001_1 x122002_1 x122003_1) else (if t123 > 3 then (shuttlelaw10_PatternRound.j1 k1 (wrap64 (Int.tmod (IntKind.u64.wrap (a0)) 4)) (wrap64 (Int.tmod (IntKind.u64.wrap (a1)) 1099511627776)) t117 t118 t119 t120 x12_1 t123 true x122000_1 x122001_1 x122002_1 x122003_1) else (if t123 = 0 then (shuttlelaw10_PatternRound.j1 k1 (wrap64 (Int.tmod (IntKind.u64.wrap (a0)) 4)) (wrap64 (Int.tmod (IntKind.u64.wrap (a1)) 1099511627776)) t117 t118 t119 t120 x12_1 0 x122000_1 x122000_1 x122001_1 x122002_1 x122003_1) else (if t123 = 1 then (shuttlelaw10_PatternRound.j1 k1 (wrap64 (Int.tmod (IntKind.u64.wrap (a0)) 4)) (wrap64 (Int.tmod (IntKind.u64.wrap (a1)) 1099511627776)) t117 t118 t119 t120 x12_1 1 x122001_1 x122000_1 x122001_1 x122002_1 x122003_1) else (if t123 = 2 then (shuttlelaw10_PatternRound.j1 k1 (wrap64 (Int.tmod (IntKind.u64.wrap (a0)) 4)) (wrap64 (Int.tmod (IntKind.u64.wrap (a1)) 1099511627776)) t117 t118 t119 t120 x12_1 2 x122002_1 x122000_1 x122001_1 x122002_1 x122003_1) else (if t123 = 3 then (shuttlelaw10_PatternRound.j1 k1 (wrap64 (Int.tmod (IntKind.u64.wrap (a0)) 4)) (wrap64 (Int.tmod (IntKind.u64.wrap (a1)) 1099511627776)) t117 t118 t119 t120 x12_1 3 x122003_1 x122000_1 x122001_1 x122002_1 x122003_1) else (none))))))) else (shuttlelaw10_PatternRound.j1 k1 (wrap64 (Int.tmod (IntKind.u64.wrap (a0)) 4)) (wrap64 (Int.tmod (IntKind.u64.wrap (a1)) 1099511627776)) t117 t118 t119 t120 x12_1 t123 true x122000_1 x122001_1 x122002_1 x122003_1)) = some r := H
        have A7 := Aside0.mk A70
        clear A70
        have HC8 := Aside0.mk H
        clear H
        go_upto_region 10 with (first | ((with_reducible refine gate_callee (f := 19) rfl ?_); refine goesL_ (some 47) rfl rfl Try.func19 (by kernel_rfl) rfl #[.int .i64 (wrap64 (Int.tmod (IntKind.u64.wrap (a0)) 4)), .int .i64 (wrap64 ((wrap64 (Int.tmod (IntKind.u64.wrap (a1)) 1099511627776)) + x12_1))] rfl (by (try simp only [List.map_toArray, List.map_cons, List.map_nil]); first | done | rfl | (simp only [List.length_drop, List.length_take]; rfl)) ?_; (with_reducible refine (pattern_Version.calls (wrap64 (Int.tmod (IntKind.u64.wrap (a0)) 4)) (wrap64 ((wrap64 (Int.tmod (IntKind.u64.wrap (a1)) 1099511627776)) + x12_1)) t123 t124 _ A7.out).mono ?_); rintro e w' ⟨rfl, ⟨nd, rfl⟩⟩; refine ⟨_, rfl, ?_⟩))
        (try simp only [Act.put, List.setIfInBounds_toArray, List.set_cons_zero, List.set_cons_succ])
        go_cut [64] (fun v64 wc => ∃ (kq : Nat) (x64_7 : Bool), v64 = .bool x64_7 ∧ Aside0 (shuttlelaw10_PatternRound.j1 kq (wrap64 (Int.tmod (IntKind.u64.wrap (a0)) 4)) (wrap64 (Int.tmod (IntKind.u64.wrap (a1)) 1099511627776)) t117 t118 t119 t120 x12_1 t123 x64_7 x122000_1 x122001_1 x122002_1 x122003_1 = some r) ∧ Aside0 (kq ≤ k1) ∧ Aside0 (wc.heap[gb121]? = some (.cells #[.bool x122000_1, .bool x122001_1, .bool x122002_1, .bool x122003_1] 38 (0, 0))) ∧ Aside0 (Below w.heap.size w wc))
        case first =>
          have H := HC8.out
          clear HC8
          by_cases c9 : t124 = 0
          · rw [if_pos c9] at H
            have c9b0 : (t124 == 0) = true := beq_iff_eq.mpr c9
            have c9b1 : (t124 != 0) = false := bne_eq_false_iff_eq.mpr c9
            clear c9
            (first | rw [c9b0] | (simp only [i64_w, i32_w]; rw [c9b0]) | skip)
            by_cases c10 : t123 < 0
            · rw [if_pos c10] at H
              have c10b0 : decide (t123 < 0) = true := decide_eq_true c10
              clear c10
              have H' := Aside0.mk H
              clear H
              go_wp2
              go_meet
              case rel => exact ⟨_, (true), (by first | rfl | (simp; done) | (simp [*]; done)), H', ⟨by have := HK1.out; first | omega | exact Nat.le_refl _⟩, ⟨by (with_reducible repeat (first | refine blk_drewN ?_ _ | refine blk_drew ?_ | refine blk_alloc ?_ _)); exact BK121.out⟩, ⟨by repeat (first | (with_reducible first | exact HB.out | apply below_alloc | apply pw_below_drewN | apply below_drew1 | refine below_set ?_ GE121.out) | exact HB.out)⟩⟩
            · rw [if_neg c10] at H
              have c10b0 : decide (t123 < 0) = false := decide_eq_false c10
              clear c10
              by_cases c11 : t123 > 3
              · rw [if_pos c11] at H
                have c11b0 : decide (3 < t123) = true := decide_eq_true c11
                clear c11
                have H' := Aside0.mk H
                clear H
                go_wp2
                go_meet
                case rel => exact ⟨_, (true), (by first | rfl | (simp; done) | (simp [*]; done)), H', ⟨by have := HK1.out; first | omega | exact Nat.le_refl _⟩, ⟨by (with_reducible repeat (first | refine blk_drewN ?_ _ | refine blk_drew ?_ | refine blk_alloc ?_ _)); exact BK121.out⟩, ⟨by repeat (first | (with_reducible first | exact HB.out | apply below_alloc | apply pw_below_drewN | apply below_drew1 | refine below_set ?_ GE121.out) | exact HB.out)⟩⟩
              · rw [if_neg c11] at H
                have c11b0 : decide (3 < t123) = false := decide_eq_false c11
                clear c11
                by_cases c12 : t123 = 0
                · rw [if_pos c12] at H
                  subst c12
                  have H' := Aside0.mk H
                  clear H
                  have hcz13_0 : wr.cell? ⟨gb121, 0, none⟩ = some (.bool x122000_1) := (blk_cell BK121.out 0).trans rfl
                  have hcz13_1 : wr.cell? ⟨gb121, 1, none⟩ = some (.bool x122001_1) := (blk_cell BK121.out 1).trans rfl
                  have hcz13_2 : wr.cell? ⟨gb121, 2, none⟩ = some (.bool x122002_1) := (blk_cell BK121.out 2).trans rfl
                  have hcz13_3 : wr.cell? ⟨gb121, 3, none⟩ = some (.bool x122003_1) := (blk_cell BK121.out 3).trans rfl
                  have hfz13_0 := blk_frozen BK121.out 0
                  have hfz13_1 := blk_frozen BK121.out 1
                  have hfz13_2 := blk_frozen BK121.out 2
                  have hfz13_3 := blk_frozen BK121.out 3
                  go_wp2
                  go_meet
                  case rel => exact ⟨_, (x122000_1), (by first | rfl | (simp; done) | (simp [*]; done)), H', ⟨by have := HK1.out; first | omega | exact Nat.le_refl _⟩, ⟨by (with_reducible repeat (first | refine blk_drewN ?_ _ | refine blk_drew ?_ | refine blk_alloc ?_ _)); exact BK121.out⟩, ⟨by repeat (first | (with_reducible first | exact HB.out | apply below_alloc | apply pw_below_drewN | apply below_drew1 | refine below_set ?_ GE121.out) | exact HB.out)⟩⟩
                · rw [if_neg c12] at H
                  clear c12
                  by_cases c14 : t123 = 1
                  · rw [if_pos c14] at H
                    subst c14
                    have H' := Aside0.mk H
                    clear H
                    have hcz15_0 : wr.cell? ⟨gb121, 0, none⟩ = some (.bool x122000_1) := (blk_cell BK121.out 0).trans rfl
                    have hcz15_1 : wr.cell? ⟨gb121, 1, none⟩ = some (.bool x122001_1) := (blk_cell BK121.out 1).trans rfl
                    have hcz15_2 : wr.cell? ⟨gb121, 2, none⟩ = some (.bool x122002_1) := (blk_cell BK121.out 2).trans rfl
                    have hcz15_3 : wr.cell? ⟨gb121, 3, none⟩ = some (.bool x122003_1) := (blk_cell BK121.out 3).trans rfl
                    have hfz15_0 := blk_frozen BK121.out 0
                    have hfz15_1 := blk_frozen BK121.out 1
                    have hfz15_2 := blk_frozen BK121.out 2
                    have hfz15_3 := blk_frozen BK121.out 3
                    go_wp2
                    go_meet
                    case rel => exact ⟨_, (x122001_1), (by first | rfl | (simp; done) | (simp [*]; done)), H', ⟨by have := HK1.out; first | omega | exact Nat.le_refl _⟩, ⟨by (with_reducible repeat (first | refine blk_drewN ?_ _ | refine blk_drew ?_ | refine blk_alloc ?_ _)); exact BK121.out⟩, ⟨by repeat (first | (with_reducible first | exact HB.out | apply below_alloc | apply pw_below_drewN | apply below_drew1 | refine below_set ?_ GE121.out) | exact HB.out)⟩⟩
                  · rw [if_neg c14] at H
                    clear c14
                    by_cases c16 : t123 = 2
                    · rw [if_pos c16] at H
                      subst c16
                      have H' := Aside0.mk H
                      clear H
                      have hcz17_0 : wr.cell? ⟨gb121, 0, none⟩ = some (.bool x122000_1) := (blk_cell BK121.out 0).trans rfl
                      have hcz17_1 : wr.cell? ⟨gb121, 1, none⟩ = some (.bool x122001_1) := (blk_cell BK121.out 1).trans rfl
                      have hcz17_2 : wr.cell? ⟨gb121, 2, none⟩ = some (.bool x122002_1) := (blk_cell BK121.out 2).trans rfl
                      have hcz17_3 : wr.cell? ⟨gb121, 3, none⟩ = some (.bool x122003_1) := (blk_cell BK121.out 3).trans rfl
                      have hfz17_0 := blk_frozen BK121.out 0
                      have hfz17_1 := blk_frozen BK121.out 1
                      have hfz17_2 := blk_frozen BK121.out 2
                      have hfz17_3 := blk_frozen BK121.out 3
                      go_wp2
                      go_meet
                      case rel => exact ⟨_, (x122002_1), (by first | rfl | (simp; done) | (simp [*]; done)), H', ⟨by have := HK1.out; first | omega | exact Nat.le_refl _⟩, ⟨by (with_reducible repeat (first | refine blk_drewN ?_ _ | refine blk_drew ?_ | refine blk_alloc ?_ _)); exact BK121.out⟩, ⟨by repeat (first | (with_reducible first | exact HB.out | apply below_alloc | apply pw_below_drewN | apply below_drew1 | refine below_set ?_ GE121.out) | exact HB.out)⟩⟩
                    · rw [if_neg c16] at H
                      clear c16
                      by_cases c18 : t123 = 3
                      · rw [if_pos c18] at H
                        subst c18
                        have H' := Aside0.mk H
                        clear H
                        have hcz19_0 : wr.cell? ⟨gb121, 0, none⟩ = some (.bool x122000_1) := (blk_cell BK121.out 0).trans rfl
                        have hcz19_1 : wr.cell? ⟨gb121, 1, none⟩ = some (.bool x122001_1) := (blk_cell BK121.out 1).trans rfl
                        have hcz19_2 : wr.cell? ⟨gb121, 2, none⟩ = some (.bool x122002_1) := (blk_cell BK121.out 2).trans rfl
                        have hcz19_3 : wr.cell? ⟨gb121, 3, none⟩ = some (.bool x122003_1) := (blk_cell BK121.out 3).trans rfl
                        have hfz19_0 := blk_frozen BK121.out 0
                        have hfz19_1 := blk_frozen BK121.out 1
                        have hfz19_2 := blk_frozen BK121.out 2
                        have hfz19_3 := blk_frozen BK121.out 3
                        go_wp2
                        go_meet
                        case rel => exact ⟨_, (x122003_1), (by first | rfl | (simp; done) | (simp [*]; done)), H', ⟨by have := HK1.out; first | omega | exact Nat.le_refl _⟩, ⟨by (with_reducible repeat (first | refine blk_drewN ?_ _ | refine blk_drew ?_ | refine blk_alloc ?_ _)); exact BK121.out⟩, ⟨by repeat (first | (with_reducible first | exact HB.out | apply below_alloc | apply pw_below_drewN | apply below_drew1 | refine below_set ?_ GE121.out) | exact HB.out)⟩⟩
                      · rw [if_neg c18] at H
                        clear c18
                        exact absurd H (by simp)
          · rw [if_neg c9] at H
            have c9b0 : (t124 == 0) = false := beq_eq_false_iff_ne.mpr c9
            have c9b1 : (t124 != 0) = true := bne_iff_ne.mpr c9
            (first | rw [c9b0] | (simp only [i64_w, i32_w]; rw [c9b0]) | skip)
            have H' := Aside0.mk H
            clear H
            go_wp2
            go_meet
            case rel => exact ⟨_, (true), (by first | rfl | (simp; done) | (simp [*]; done)), H', ⟨by have := HK1.out; first | omega | exact Nat.le_refl _⟩, ⟨by (with_reducible repeat (first | refine blk_drewN ?_ _ | refine blk_drew ?_ | refine blk_alloc ?_ _)); exact BK121.out⟩, ⟨by repeat (first | (with_reducible first | exact HB.out | apply below_alloc | apply pw_below_drewN | apply below_drew1 | refine below_set ?_ GE121.out) | exact HB.out)⟩⟩
        case rest =>
          clear HC8
          try clear c1
          try clear p2
          try clear c6
          try clear c6b0
          try clear p6
          try clear c9
          try clear c9b0
          try clear c9b1
          try clear c10
          try clear c10b0
          try clear c11
          try clear c11b0
          try clear c12
          try clear c14
          try clear c16
          try clear c18
          try clear c19
          try clear hcz13_0
          try clear hcz13_1
          try clear hcz13_2
          try clear hcz13_3
          try clear hcz15_0
          try clear hcz15_1
          try clear hcz15_2
          try clear hcz15_3
          try clear hcz17_0
          try clear hcz17_1
          try clear hcz17_2
          try clear hcz17_3
          try clear hcz19_0
          try clear hcz19_1
          try clear hcz19_2
          try clear hcz19_3
          try clear hfz13_0
          try clear hfz13_1
          try clear hfz13_2
          try clear hfz13_3
          try clear hfz15_0
          try clear hfz15_1
          try clear hfz15_2
          try clear hfz15_3
          try clear hfz17_0
          try clear hfz17_1
          try clear hfz17_2
          try clear hfz17_3
          try clear hfz19_0
          try clear hfz19_1
          try clear hfz19_2
          try clear hfz19_3
          try clear p2
          obtain ⟨kq, x64_7, rfl, HA, HJ7, BK121, HB⟩ := hcut
          cases kq with
          | zero => exact absurd HA.out (by simp [shuttlelaw10_PatternRound.j1])
          | succ kj7 =>
            have H := HA.out
            clear HA
            simp only [shuttlelaw10_PatternRound.j1] at H
            by_cases c20 : x64_7 = true
            · subst c20
              have H1 : (some false) = some r := by rw [if_pos rfl] at H; exact H
              clear H
              have H := H1
              clear H1
              obtain rfl := Option.some.inj H
              go_wp2
              go_ret
              exact ⟨by first | rfl | (simp [errW_none, errW_some] <;> rfl) | (simp [*, errW_none, errW_some] <;> rfl), by repeat (first | (with_reducible first | exact HB.out | apply below_alloc | apply pw_below_drewN | apply below_drew1 | refine below_set ?_ GE121.out) | exact HB.out)⟩
            · replace c20 := Bool.eq_false_iff.mpr c20
              subst c20
              have H1 : (if t123 = 0 then ((pattern_Stream.f 0 (wrap64 ((wrap64 (Int.tmod (IntKind.u64.wrap (a1)) 1099511627776)) + x12_1))).bind fun bt131 => (if bt131.2 = 0 then (if bt131.1 = (wrap64 (Int.tmod (IntKind.u64.wrap (a0)) 4)) then (shuttlelaw10_PatternRound.l0 kj7 (wrap64 (Int.tmod (IntKind.u64.wrap (a0)) 4)) (wrap64 (Int.tmod (IntKind.u64.wrap (a1)) 1099511627776)) t117 t118 t119 t120 (wrap64 (x12_1 + 1)) true x122001_1 x122002_1 x122003_1) else (some false)) else (some false))) else (if t123 = 1 then ((pattern_Stream.f 1 (wrap64 ((wrap64 (Int.tmod (IntKind.u64.wrap (a1)) 1099511627776)) + x12_1))).bind fun bt129 => (if bt129.2 = 0 then (if bt129.1 = (wrap64 (Int.tmod (IntKind.u64.wrap (a0)) 4)) then (shuttlelaw10_PatternRound.l0 kj7 (wrap64 (Int.tmod (IntKind.u64.wrap (a0)) 4)) (wrap64 (Int.tmod (IntKind.u64.wrap (a1)) 1099511627776)) t117 t118 t119 t120 (wrap64 (x12_1 + 1)) x122000_1 true x122002_1 x122003_1) else (some false)) else (some false))) else (if t123 = 2 then ((pattern_Stream.f 2 (wrap64 ((wrap64 (Int.tmod (IntKind.u64.wrap (a1)) 1099511627776)) + x12_1))).bind fun bt127 => (if bt127.2 = 0 then (if bt127.1 = (wrap64 (Int.tmod (IntKind.u64.wrap (a0)) 4)) then (shuttlelaw10_PatternRound.l0 kj7 (wrap64 (Int.tmod (IntKind.u64.wrap (a0)) 4)) (wrap64 (Int.tmod (IntKind.u64.wrap (a1)) 1099511627776)) t117 t118 t119 t120 (wrap64 (x12_1 + 1)) x122000_1 x122001_1 true x122003_1) else (some false)) else (some false))) else (if t123 = 3 then ((pattern_Stream.f 3 (wrap64 ((wrap64 (Int.tmod (IntKind.u64.wrap (a1)) 1099511627776)) + x12_1))).bind fun bt125 => (if bt125.2 = 0 then (if bt125.1 = (wrap64 (Int.tmod (IntKind.u64.wrap (a0)) 4)) then (shuttlelaw10_PatternRound.l0 kj7 (wrap64 (Int.tmod (IntKind.u64.wrap (a0)) 4)) (wrap64 (Int.tmod (IntKind.u64.wrap (a1)) 1099511627776)) t117 t118 t119 t120 (wrap64 (x12_1 + 1)) x122000_1 x122001_1 x122002_1 true) else (some false)) else (some false))) else (none))))) = some r := by rw [if_neg (show ¬ (false = true) by decide)] at H; exact H
              clear H
              have H := H1
              clear H1
              by_cases c21 : t123 = 0
              · rw [if_pos c21] at H
                subst c21
                replace H := Option.bind_eq_some_iff.mp H
                obtain ⟨⟨t131, t132⟩, A220, H⟩ := H
                replace H : (if t132 = 0 then (if t131 = (wrap64 (Int.tmod (IntKind.u64.wrap (a0)) 4)) then (shuttlelaw10_PatternRound.l0 kj7 (wrap64 (Int.tmod (IntKind.u64.wrap (a0)) 4)) (wrap64 (Int.tmod (IntKind.u64.wrap (a1)) 1099511627776)) t117 t118 t119 t120 (wrap64 (x12_1 + 1)) true x122001_1 x122002_1 x122003_1) else (some false)) else (some false)) = some r := H
                have A22 := Aside0.mk A220
                clear A220
                by_cases c23 : t132 = 0
                · rw [if_pos c23] at H
                  have c23b0 : (t132 == 0) = true := beq_iff_eq.mpr c23
                  have c23b1 : (t132 != 0) = false := bne_eq_false_iff_eq.mpr c23
                  clear c23
                  by_cases c24 : t131 = (wrap64 (Int.tmod (IntKind.u64.wrap (a0)) 4))
                  · rw [if_pos c24] at H
                    have c24b0 : (t131 == (wrap64 (Int.tmod (IntKind.u64.wrap (a0)) 4))) = true := beq_iff_eq.mpr c24
                    have c24b1 : (t131 != (wrap64 (Int.tmod (IntKind.u64.wrap (a0)) 4))) = false := bne_eq_false_iff_eq.mpr c24
                    clear c24
                    have H' := Aside0.mk H
                    clear H
                    have hcz25_0 : wc.cell? ⟨gb121, 0, none⟩ = some (.bool x122000_1) := (blk_cell BK121.out 0).trans rfl
                    have hcz25_1 : wc.cell? ⟨gb121, 1, none⟩ = some (.bool x122001_1) := (blk_cell BK121.out 1).trans rfl
                    have hcz25_2 : wc.cell? ⟨gb121, 2, none⟩ = some (.bool x122002_1) := (blk_cell BK121.out 2).trans rfl
                    have hcz25_3 : wc.cell? ⟨gb121, 3, none⟩ = some (.bool x122003_1) := (blk_cell BK121.out 3).trans rfl
                    have hfz25_0 := blk_frozen BK121.out 0
                    have hfz25_1 := blk_frozen BK121.out 1
                    have hfz25_2 := blk_frozen BK121.out 2
                    have hfz25_3 := blk_frozen BK121.out 3
                    go_wp2_with (first | ((with_reducible refine gate_callee (f := 20) rfl ?_); refine goesL_ (some 72) rfl rfl Try.func20 (by kernel_rfl) rfl #[.int .i64 0, .int .i64 (wrap64 ((wrap64 (Int.tmod (IntKind.u64.wrap (a1)) 1099511627776)) + x12_1))] rfl (by (try simp only [List.map_toArray, List.map_cons, List.map_nil]); first | done | rfl | (simp only [List.length_drop, List.length_take]; rfl)) ?_; (with_reducible refine (pattern_Stream.calls 0 (wrap64 ((wrap64 (Int.tmod (IntKind.u64.wrap (a1)) 1099511627776)) + x12_1)) t131 t132 _ A22.out).mono ?_); rintro e w' ⟨rfl, ⟨nd, rfl⟩⟩; refine ⟨_, rfl, ?_⟩))
                    go_roundg kj7
                    case measure => have := HK1.out; have := HJ7.out; omega
                    case rel => exact ⟨(wrap64 (x12_1 + 1)), (true), (x122001_1), (x122002_1), (x122003_1), (by first | rfl | (simp; done) | (simp [*]; done)), H', ⟨by have := HK1.out; have := HJ7.out; omega⟩, ⟨by (with_reducible repeat (first | refine blk_drewN ?_ _ | refine blk_drew ?_ | refine blk_alloc ?_ _)); refine blk_put (cs := #[.bool x122000_1, .bool x122001_1, .bool x122002_1, .bool x122003_1]) ?_ 0 _ rfl; (with_reducible repeat (first | refine blk_drewN ?_ _ | refine blk_drew ?_ | refine blk_alloc ?_ _)); exact BK121.out⟩, ⟨by repeat (first | (with_reducible first | exact HB.out | apply below_alloc | apply pw_below_drewN | apply below_drew1 | refine below_set ?_ GE121.out) | exact HB.out)⟩⟩
                  · rw [if_neg c24] at H
                    have c24b0 : (t131 == (wrap64 (Int.tmod (IntKind.u64.wrap (a0)) 4))) = false := beq_eq_false_iff_ne.mpr c24
                    have c24b1 : (t131 != (wrap64 (Int.tmod (IntKind.u64.wrap (a0)) 4))) = true := bne_iff_ne.mpr c24
                    obtain rfl := Option.some.inj H
                    have hcz26_0 : wc.cell? ⟨gb121, 0, none⟩ = some (.bool x122000_1) := (blk_cell BK121.out 0).trans rfl
                    have hcz26_1 : wc.cell? ⟨gb121, 1, none⟩ = some (.bool x122001_1) := (blk_cell BK121.out 1).trans rfl
                    have hcz26_2 : wc.cell? ⟨gb121, 2, none⟩ = some (.bool x122002_1) := (blk_cell BK121.out 2).trans rfl
                    have hcz26_3 : wc.cell? ⟨gb121, 3, none⟩ = some (.bool x122003_1) := (blk_cell BK121.out 3).trans rfl
                    have hfz26_0 := blk_frozen BK121.out 0
                    have hfz26_1 := blk_frozen BK121.out 1
                    have hfz26_2 := blk_frozen BK121.out 2
                    have hfz26_3 := blk_frozen BK121.out 3
                    go_wp2_with (first | ((with_reducible refine gate_callee (f := 20) rfl ?_); refine goesL_ (some 72) rfl rfl Try.func20 (by kernel_rfl) rfl #[.int .i64 0, .int .i64 (wrap64 ((wrap64 (Int.tmod (IntKind.u64.wrap (a1)) 1099511627776)) + x12_1))] rfl (by (try simp only [List.map_toArray, List.map_cons, List.map_nil]); first | done | rfl | (simp only [List.length_drop, List.length_take]; rfl)) ?_; (with_reducible refine (pattern_Stream.calls 0 (wrap64 ((wrap64 (Int.tmod (IntKind.u64.wrap (a1)) 1099511627776)) + x12_1)) t131 t132 _ A22.out).mono ?_); rintro e w' ⟨rfl, ⟨nd, rfl⟩⟩; refine ⟨_, rfl, ?_⟩))
                    go_ret
                    exact ⟨by first | rfl | (simp [errW_none, errW_some] <;> rfl) | (simp [*, errW_none, errW_some] <;> rfl), by repeat (first | (with_reducible first | exact HB.out | apply below_alloc | apply pw_below_drewN | apply below_drew1 | refine below_set ?_ GE121.out) | exact HB.out)⟩
                · rw [if_neg c23] at H
                  have c23b0 : (t132 == 0) = false := beq_eq_false_iff_ne.mpr c23
                  have c23b1 : (t132 != 0) = true := bne_iff_ne.mpr c23
                  obtain rfl := Option.some.inj H
                  have hcz27_0 : wc.cell? ⟨gb121, 0, none⟩ = some (.bool x122000_1) := (blk_cell BK121.out 0).trans rfl
                  have hcz27_1 : wc.cell? ⟨gb121, 1, none⟩ = some (.bool x122001_1) := (blk_cell BK121.out 1).trans rfl
                  have hcz27_2 : wc.cell? ⟨gb121, 2, none⟩ = some (.bool x122002_1) := (blk_cell BK121.out 2).trans rfl
                  have hcz27_3 : wc.cell? ⟨gb121, 3, none⟩ = some (.bool x122003_1) := (blk_cell BK121.out 3).trans rfl
                  have hfz27_0 := blk_frozen BK121.out 0
                  have hfz27_1 := blk_frozen BK121.out 1
                  have hfz27_2 := blk_frozen BK121.out 2
                  have hfz27_3 := blk_frozen BK121.out 3
                  go_wp2_with (first | ((with_reducible refine gate_callee (f := 20) rfl ?_); refine goesL_ (some 72) rfl rfl Try.func20 (by kernel_rfl) rfl #[.int .i64 0, .int .i64 (wrap64 ((wrap64 (Int.tmod (IntKind.u64.wrap (a1)) 1099511627776)) + x12_1))] rfl (by (try simp only [List.map_toArray, List.map_cons, List.map_nil]); first | done | rfl | (simp only [List.length_drop, List.length_take]; rfl)) ?_; (with_reducible refine (pattern_Stream.calls 0 (wrap64 ((wrap64 (Int.tmod (IntKind.u64.wrap (a1)) 1099511627776)) + x12_1)) t131 t132 _ A22.out).mono ?_); rintro e w' ⟨rfl, ⟨nd, rfl⟩⟩; refine ⟨_, rfl, ?_⟩))
                  go_ret
                  exact ⟨by first | rfl | (simp [errW_none, errW_some] <;> rfl) | (simp [*, errW_none, errW_some] <;> rfl), by repeat (first | (with_reducible first | exact HB.out | apply below_alloc | apply pw_below_drewN | apply below_drew1 | refine below_set ?_ GE121.out) | exact HB.out)⟩
              · rw [if_neg c21] at H
                clear c21
                by_cases c28 : t123 = 1
                · rw [if_pos c28] at H
                  subst c28
                  replace H := Option.bind_eq_some_iff.mp H
                  obtain ⟨⟨t129, t130⟩, A290, H⟩ := H
                  replace H : (if t130 = 0 then (if t129 = (wrap64 (Int.tmod (IntKind.u64.wrap (a0)) 4)) then (shuttlelaw10_PatternRound.l0 kj7 (wrap64 (Int.tmod (IntKind.u64.wrap (a0)) 4)) (wrap64 (Int.tmod (IntKind.u64.wrap (a1)) 1099511627776)) t117 t118 t119 t120 (wrap64 (x12_1 + 1)) x122000_1 true x122002_1 x122003_1) else (some false)) else (some false)) = some r := H
                  have A29 := Aside0.mk A290
                  clear A290
                  by_cases c30 : t130 = 0
                  · rw [if_pos c30] at H
                    have c30b0 : (t130 == 0) = true := beq_iff_eq.mpr c30
                    have c30b1 : (t130 != 0) = false := bne_eq_false_iff_eq.mpr c30
                    clear c30
                    by_cases c31 : t129 = (wrap64 (Int.tmod (IntKind.u64.wrap (a0)) 4))
                    · rw [if_pos c31] at H
                      have c31b0 : (t129 == (wrap64 (Int.tmod (IntKind.u64.wrap (a0)) 4))) = true := beq_iff_eq.mpr c31
                      have c31b1 : (t129 != (wrap64 (Int.tmod (IntKind.u64.wrap (a0)) 4))) = false := bne_eq_false_iff_eq.mpr c31
                      clear c31
                      have H' := Aside0.mk H
                      clear H
                      have hcz32_0 : wc.cell? ⟨gb121, 0, none⟩ = some (.bool x122000_1) := (blk_cell BK121.out 0).trans rfl
                      have hcz32_1 : wc.cell? ⟨gb121, 1, none⟩ = some (.bool x122001_1) := (blk_cell BK121.out 1).trans rfl
                      have hcz32_2 : wc.cell? ⟨gb121, 2, none⟩ = some (.bool x122002_1) := (blk_cell BK121.out 2).trans rfl
                      have hcz32_3 : wc.cell? ⟨gb121, 3, none⟩ = some (.bool x122003_1) := (blk_cell BK121.out 3).trans rfl
                      have hfz32_0 := blk_frozen BK121.out 0
                      have hfz32_1 := blk_frozen BK121.out 1
                      have hfz32_2 := blk_frozen BK121.out 2
                      have hfz32_3 := blk_frozen BK121.out 3
                      go_wp2_with (first | ((with_reducible refine gate_callee (f := 20) rfl ?_); refine goesL_ (some 72) rfl rfl Try.func20 (by kernel_rfl) rfl #[.int .i64 1, .int .i64 (wrap64 ((wrap64 (Int.tmod (IntKind.u64.wrap (a1)) 1099511627776)) + x12_1))] rfl (by (try simp only [List.map_toArray, List.map_cons, List.map_nil]); first | done | rfl | (simp only [List.length_drop, List.length_take]; rfl)) ?_; (with_reducible refine (pattern_Stream.calls 1 (wrap64 ((wrap64 (Int.tmod (IntKind.u64.wrap (a1)) 1099511627776)) + x12_1)) t129 t130 _ A29.out).mono ?_); rintro e w' ⟨rfl, ⟨nd, rfl⟩⟩; refine ⟨_, rfl, ?_⟩))
                      go_roundg kj7
                      case measure => have := HK1.out; have := HJ7.out; omega
                      case rel => exact ⟨(wrap64 (x12_1 + 1)), (x122000_1), (true), (x122002_1), (x122003_1), (by first | rfl | (simp; done) | (simp [*]; done)), H', ⟨by have := HK1.out; have := HJ7.out; omega⟩, ⟨by (with_reducible repeat (first | refine blk_drewN ?_ _ | refine blk_drew ?_ | refine blk_alloc ?_ _)); refine blk_put (cs := #[.bool x122000_1, .bool x122001_1, .bool x122002_1, .bool x122003_1]) ?_ 1 _ rfl; (with_reducible repeat (first | refine blk_drewN ?_ _ | refine blk_drew ?_ | refine blk_alloc ?_ _)); exact BK121.out⟩, ⟨by repeat (first | (with_reducible first | exact HB.out | apply below_alloc | apply pw_below_drewN | apply below_drew1 | refine below_set ?_ GE121.out) | exact HB.out)⟩⟩
                    · rw [if_neg c31] at H
                      have c31b0 : (t129 == (wrap64 (Int.tmod (IntKind.u64.wrap (a0)) 4))) = false := beq_eq_false_iff_ne.mpr c31
                      have c31b1 : (t129 != (wrap64 (Int.tmod (IntKind.u64.wrap (a0)) 4))) = true := bne_iff_ne.mpr c31
                      obtain rfl := Option.some.inj H
                      have hcz33_0 : wc.cell? ⟨gb121, 0, none⟩ = some (.bool x122000_1) := (blk_cell BK121.out 0).trans rfl
                      have hcz33_1 : wc.cell? ⟨gb121, 1, none⟩ = some (.bool x122001_1) := (blk_cell BK121.out 1).trans rfl
                      have hcz33_2 : wc.cell? ⟨gb121, 2, none⟩ = some (.bool x122002_1) := (blk_cell BK121.out 2).trans rfl
                      have hcz33_3 : wc.cell? ⟨gb121, 3, none⟩ = some (.bool x122003_1) := (blk_cell BK121.out 3).trans rfl
                      have hfz33_0 := blk_frozen BK121.out 0
                      have hfz33_1 := blk_frozen BK121.out 1
                      have hfz33_2 := blk_frozen BK121.out 2
                      have hfz33_3 := blk_frozen BK121.out 3
                      go_wp2_with (first | ((with_reducible refine gate_callee (f := 20) rfl ?_); refine goesL_ (some 72) rfl rfl Try.func20 (by kernel_rfl) rfl #[.int .i64 1, .int .i64 (wrap64 ((wrap64 (Int.tmod (IntKind.u64.wrap (a1)) 1099511627776)) + x12_1))] rfl (by (try simp only [List.map_toArray, List.map_cons, List.map_nil]); first | done | rfl | (simp only [List.length_drop, List.length_take]; rfl)) ?_; (with_reducible refine (pattern_Stream.calls 1 (wrap64 ((wrap64 (Int.tmod (IntKind.u64.wrap (a1)) 1099511627776)) + x12_1)) t129 t130 _ A29.out).mono ?_); rintro e w' ⟨rfl, ⟨nd, rfl⟩⟩; refine ⟨_, rfl, ?_⟩))
                      go_ret
                      exact ⟨by first | rfl | (simp [errW_none, errW_some] <;> rfl) | (simp [*, errW_none, errW_some] <;> rfl), by repeat (first | (with_reducible first | exact HB.out | apply below_alloc | apply pw_below_drewN | apply below_drew1 | refine below_set ?_ GE121.out) | exact HB.out)⟩
                  · rw [if_neg c30] at H
                    have c30b0 : (t130 == 0) = false := beq_eq_false_iff_ne.mpr c30
                    have c30b1 : (t130 != 0) = true := bne_iff_ne.mpr c30
                    obtain rfl := Option.some.inj H
                    have hcz34_0 : wc.cell? ⟨gb121, 0, none⟩ = some (.bool x122000_1) := (blk_cell BK121.out 0).trans rfl
                    have hcz34_1 : wc.cell? ⟨gb121, 1, none⟩ = some (.bool x122001_1) := (blk_cell BK121.out 1).trans rfl
                    have hcz34_2 : wc.cell? ⟨gb121, 2, none⟩ = some (.bool x122002_1) := (blk_cell BK121.out 2).trans rfl
                    have hcz34_3 : wc.cell? ⟨gb121, 3, none⟩ = some (.bool x122003_1) := (blk_cell BK121.out 3).trans rfl
                    have hfz34_0 := blk_frozen BK121.out 0
                    have hfz34_1 := blk_frozen BK121.out 1
                    have hfz34_2 := blk_frozen BK121.out 2
                    have hfz34_3 := blk_frozen BK121.out 3
                    go_wp2_with (first | ((with_reducible refine gate_callee (f := 20) rfl ?_); refine goesL_ (some 72) rfl rfl Try.func20 (by kernel_rfl) rfl #[.int .i64 1, .int .i64 (wrap64 ((wrap64 (Int.tmod (IntKind.u64.wrap (a1)) 1099511627776)) + x12_1))] rfl (by (try simp only [List.map_toArray, List.map_cons, List.map_nil]); first | done | rfl | (simp only [List.length_drop, List.length_take]; rfl)) ?_; (with_reducible refine (pattern_Stream.calls 1 (wrap64 ((wrap64 (Int.tmod (IntKind.u64.wrap (a1)) 1099511627776)) + x12_1)) t129 t130 _ A29.out).mono ?_); rintro e w' ⟨rfl, ⟨nd, rfl⟩⟩; refine ⟨_, rfl, ?_⟩))
                    go_ret
                    exact ⟨by first | rfl | (simp [errW_none, errW_some] <;> rfl) | (simp [*, errW_none, errW_some] <;> rfl), by repeat (first | (with_reducible first | exact HB.out | apply below_alloc | apply pw_below_drewN | apply below_drew1 | refine below_set ?_ GE121.out) | exact HB.out)⟩
                · rw [if_neg c28] at H
                  clear c28
                  by_cases c35 : t123 = 2
                  · rw [if_pos c35] at H
                    subst c35
                    replace H := Option.bind_eq_some_iff.mp H
                    obtain ⟨⟨t127, t128⟩, A360, H⟩ := H
                    replace H : (if t128 = 0 then (if t127 = (wrap64 (Int.tmod (IntKind.u64.wrap (a0)) 4)) then (shuttlelaw10_PatternRound.l0 kj7 (wrap64 (Int.tmod (IntKind.u64.wrap (a0)) 4)) (wrap64 (Int.tmod (IntKind.u64.wrap (a1)) 1099511627776)) t117 t118 t119 t120 (wrap64 (x12_1 + 1)) x122000_1 x122001_1 true x122003_1) else (some false)) else (some false)) = some r := H
                    have A36 := Aside0.mk A360
                    clear A360
                    by_cases c37 : t128 = 0
                    · rw [if_pos c37] at H
                      have c37b0 : (t128 == 0) = true := beq_iff_eq.mpr c37
                      have c37b1 : (t128 != 0) = false := bne_eq_false_iff_eq.mpr c37
                      clear c37
                      by_cases c38 : t127 = (wrap64 (Int.tmod (IntKind.u64.wrap (a0)) 4))
                      · rw [if_pos c38] at H
                        have c38b0 : (t127 == (wrap64 (Int.tmod (IntKind.u64.wrap (a0)) 4))) = true := beq_iff_eq.mpr c38
                        have c38b1 : (t127 != (wrap64 (Int.tmod (IntKind.u64.wrap (a0)) 4))) = false := bne_eq_false_iff_eq.mpr c38
                        clear c38
                        have H' := Aside0.mk H
                        clear H
                        have hcz39_0 : wc.cell? ⟨gb121, 0, none⟩ = some (.bool x122000_1) := (blk_cell BK121.out 0).trans rfl
                        have hcz39_1 : wc.cell? ⟨gb121, 1, none⟩ = some (.bool x122001_1) := (blk_cell BK121.out 1).trans rfl
                        have hcz39_2 : wc.cell? ⟨gb121, 2, none⟩ = some (.bool x122002_1) := (blk_cell BK121.out 2).trans rfl
                        have hcz39_3 : wc.cell? ⟨gb121, 3, none⟩ = some (.bool x122003_1) := (blk_cell BK121.out 3).trans rfl
                        have hfz39_0 := blk_frozen BK121.out 0
                        have hfz39_1 := blk_frozen BK121.out 1
                        have hfz39_2 := blk_frozen BK121.out 2
                        have hfz39_3 := blk_frozen BK121.out 3
                        go_wp2_with (first | ((with_reducible refine gate_callee (f := 20) rfl ?_); refine goesL_ (some 72) rfl rfl Try.func20 (by kernel_rfl) rfl #[.int .i64 2, .int .i64 (wrap64 ((wrap64 (Int.tmod (IntKind.u64.wrap (a1)) 1099511627776)) + x12_1))] rfl (by (try simp only [List.map_toArray, List.map_cons, List.map_nil]); first | done | rfl | (simp only [List.length_drop, List.length_take]; rfl)) ?_; (with_reducible refine (pattern_Stream.calls 2 (wrap64 ((wrap64 (Int.tmod (IntKind.u64.wrap (a1)) 1099511627776)) + x12_1)) t127 t128 _ A36.out).mono ?_); rintro e w' ⟨rfl, ⟨nd, rfl⟩⟩; refine ⟨_, rfl, ?_⟩))
                        go_roundg kj7
                        case measure => have := HK1.out; have := HJ7.out; omega
                        case rel => exact ⟨(wrap64 (x12_1 + 1)), (x122000_1), (x122001_1), (true), (x122003_1), (by first | rfl | (simp; done) | (simp [*]; done)), H', ⟨by have := HK1.out; have := HJ7.out; omega⟩, ⟨by (with_reducible repeat (first | refine blk_drewN ?_ _ | refine blk_drew ?_ | refine blk_alloc ?_ _)); refine blk_put (cs := #[.bool x122000_1, .bool x122001_1, .bool x122002_1, .bool x122003_1]) ?_ 2 _ rfl; (with_reducible repeat (first | refine blk_drewN ?_ _ | refine blk_drew ?_ | refine blk_alloc ?_ _)); exact BK121.out⟩, ⟨by repeat (first | (with_reducible first | exact HB.out | apply below_alloc | apply pw_below_drewN | apply below_drew1 | refine below_set ?_ GE121.out) | exact HB.out)⟩⟩
                      · rw [if_neg c38] at H
                        have c38b0 : (t127 == (wrap64 (Int.tmod (IntKind.u64.wrap (a0)) 4))) = false := beq_eq_false_iff_ne.mpr c38
                        have c38b1 : (t127 != (wrap64 (Int.tmod (IntKind.u64.wrap (a0)) 4))) = true := bne_iff_ne.mpr c38
                        obtain rfl := Option.some.inj H
                        have hcz40_0 : wc.cell? ⟨gb121, 0, none⟩ = some (.bool x122000_1) := (blk_cell BK121.out 0).trans rfl
                        have hcz40_1 : wc.cell? ⟨gb121, 1, none⟩ = some (.bool x122001_1) := (blk_cell BK121.out 1).trans rfl
                        have hcz40_2 : wc.cell? ⟨gb121, 2, none⟩ = some (.bool x122002_1) := (blk_cell BK121.out 2).trans rfl
                        have hcz40_3 : wc.cell? ⟨gb121, 3, none⟩ = some (.bool x122003_1) := (blk_cell BK121.out 3).trans rfl
                        have hfz40_0 := blk_frozen BK121.out 0
                        have hfz40_1 := blk_frozen BK121.out 1
                        have hfz40_2 := blk_frozen BK121.out 2
                        have hfz40_3 := blk_frozen BK121.out 3
                        go_wp2_with (first | ((with_reducible refine gate_callee (f := 20) rfl ?_); refine goesL_ (some 72) rfl rfl Try.func20 (by kernel_rfl) rfl #[.int .i64 2, .int .i64 (wrap64 ((wrap64 (Int.tmod (IntKind.u64.wrap (a1)) 1099511627776)) + x12_1))] rfl (by (try simp only [List.map_toArray, List.map_cons, List.map_nil]); first | done | rfl | (simp only [List.length_drop, List.length_take]; rfl)) ?_; (with_reducible refine (pattern_Stream.calls 2 (wrap64 ((wrap64 (Int.tmod (IntKind.u64.wrap (a1)) 1099511627776)) + x12_1)) t127 t128 _ A36.out).mono ?_); rintro e w' ⟨rfl, ⟨nd, rfl⟩⟩; refine ⟨_, rfl, ?_⟩))
                        go_ret
                        exact ⟨by first | rfl | (simp [errW_none, errW_some] <;> rfl) | (simp [*, errW_none, errW_some] <;> rfl), by repeat (first | (with_reducible first | exact HB.out | apply below_alloc | apply pw_below_drewN | apply below_drew1 | refine below_set ?_ GE121.out) | exact HB.out)⟩
                    · rw [if_neg c37] at H
                      have c37b0 : (t128 == 0) = false := beq_eq_false_iff_ne.mpr c37
                      have c37b1 : (t128 != 0) = true := bne_iff_ne.mpr c37
                      obtain rfl := Option.some.inj H
                      have hcz41_0 : wc.cell? ⟨gb121, 0, none⟩ = some (.bool x122000_1) := (blk_cell BK121.out 0).trans rfl
                      have hcz41_1 : wc.cell? ⟨gb121, 1, none⟩ = some (.bool x122001_1) := (blk_cell BK121.out 1).trans rfl
                      have hcz41_2 : wc.cell? ⟨gb121, 2, none⟩ = some (.bool x122002_1) := (blk_cell BK121.out 2).trans rfl
                      have hcz41_3 : wc.cell? ⟨gb121, 3, none⟩ = some (.bool x122003_1) := (blk_cell BK121.out 3).trans rfl
                      have hfz41_0 := blk_frozen BK121.out 0
                      have hfz41_1 := blk_frozen BK121.out 1
                      have hfz41_2 := blk_frozen BK121.out 2
                      have hfz41_3 := blk_frozen BK121.out 3
                      go_wp2_with (first | ((with_reducible refine gate_callee (f := 20) rfl ?_); refine goesL_ (some 72) rfl rfl Try.func20 (by kernel_rfl) rfl #[.int .i64 2, .int .i64 (wrap64 ((wrap64 (Int.tmod (IntKind.u64.wrap (a1)) 1099511627776)) + x12_1))] rfl (by (try simp only [List.map_toArray, List.map_cons, List.map_nil]); first | done | rfl | (simp only [List.length_drop, List.length_take]; rfl)) ?_; (with_reducible refine (pattern_Stream.calls 2 (wrap64 ((wrap64 (Int.tmod (IntKind.u64.wrap (a1)) 1099511627776)) + x12_1)) t127 t128 _ A36.out).mono ?_); rintro e w' ⟨rfl, ⟨nd, rfl⟩⟩; refine ⟨_, rfl, ?_⟩))
                      go_ret
                      exact ⟨by first | rfl | (simp [errW_none, errW_some] <;> rfl) | (simp [*, errW_none, errW_some] <;> rfl), by repeat (first | (with_reducible first | exact HB.out | apply below_alloc | apply pw_below_drewN | apply below_drew1 | refine below_set ?_ GE121.out) | exact HB.out)⟩
                  · rw [if_neg c35] at H
                    clear c35
                    by_cases c42 : t123 = 3
                    · rw [if_pos c42] at H
                      subst c42
                      replace H := Option.bind_eq_some_iff.mp H
                      obtain ⟨⟨t125, t126⟩, A430, H⟩ := H
                      replace H : (if t126 = 0 then (if t125 = (wrap64 (Int.tmod (IntKind.u64.wrap (a0)) 4)) then (shuttlelaw10_PatternRound.l0 kj7 (wrap64 (Int.tmod (IntKind.u64.wrap (a0)) 4)) (wrap64 (Int.tmod (IntKind.u64.wrap (a1)) 1099511627776)) t117 t118 t119 t120 (wrap64 (x12_1 + 1)) x122000_1 x122001_1 x122002_1 true) else (some false)) else (some false)) = some r := H
                      have A43 := Aside0.mk A430
                      clear A430
                      by_cases c44 : t126 = 0
                      · rw [if_pos c44] at H
                        have c44b0 : (t126 == 0) = true := beq_iff_eq.mpr c44
                        have c44b1 : (t126 != 0) = false := bne_eq_false_iff_eq.mpr c44
                        clear c44
                        by_cases c45 : t125 = (wrap64 (Int.tmod (IntKind.u64.wrap (a0)) 4))
                        · rw [if_pos c45] at H
                          have c45b0 : (t125 == (wrap64 (Int.tmod (IntKind.u64.wrap (a0)) 4))) = true := beq_iff_eq.mpr c45
                          have c45b1 : (t125 != (wrap64 (Int.tmod (IntKind.u64.wrap (a0)) 4))) = false := bne_eq_false_iff_eq.mpr c45
                          clear c45
                          have H' := Aside0.mk H
                          clear H
                          have hcz46_0 : wc.cell? ⟨gb121, 0, none⟩ = some (.bool x122000_1) := (blk_cell BK121.out 0).trans rfl
                          have hcz46_1 : wc.cell? ⟨gb121, 1, none⟩ = some (.bool x122001_1) := (blk_cell BK121.out 1).trans rfl
                          have hcz46_2 : wc.cell? ⟨gb121, 2, none⟩ = some (.bool x122002_1) := (blk_cell BK121.out 2).trans rfl
                          have hcz46_3 : wc.cell? ⟨gb121, 3, none⟩ = some (.bool x122003_1) := (blk_cell BK121.out 3).trans rfl
                          have hfz46_0 := blk_frozen BK121.out 0
                          have hfz46_1 := blk_frozen BK121.out 1
                          have hfz46_2 := blk_frozen BK121.out 2
                          have hfz46_3 := blk_frozen BK121.out 3
                          go_wp2_with (first | ((with_reducible refine gate_callee (f := 20) rfl ?_); refine goesL_ (some 72) rfl rfl Try.func20 (by kernel_rfl) rfl #[.int .i64 3, .int .i64 (wrap64 ((wrap64 (Int.tmod (IntKind.u64.wrap (a1)) 1099511627776)) + x12_1))] rfl (by (try simp only [List.map_toArray, List.map_cons, List.map_nil]); first | done | rfl | (simp only [List.length_drop, List.length_take]; rfl)) ?_; (with_reducible refine (pattern_Stream.calls 3 (wrap64 ((wrap64 (Int.tmod (IntKind.u64.wrap (a1)) 1099511627776)) + x12_1)) t125 t126 _ A43.out).mono ?_); rintro e w' ⟨rfl, ⟨nd, rfl⟩⟩; refine ⟨_, rfl, ?_⟩))
                          go_roundg kj7
                          case measure => have := HK1.out; have := HJ7.out; omega
                          case rel => exact ⟨(wrap64 (x12_1 + 1)), (x122000_1), (x122001_1), (x122002_1), (true), (by first | rfl | (simp; done) | (simp [*]; done)), H', ⟨by have := HK1.out; have := HJ7.out; omega⟩, ⟨by (with_reducible repeat (first | refine blk_drewN ?_ _ | refine blk_drew ?_ | refine blk_alloc ?_ _)); refine blk_put (cs := #[.bool x122000_1, .bool x122001_1, .bool x122002_1, .bool x122003_1]) ?_ 3 _ rfl; (with_reducible repeat (first | refine blk_drewN ?_ _ | refine blk_drew ?_ | refine blk_alloc ?_ _)); exact BK121.out⟩, ⟨by repeat (first | (with_reducible first | exact HB.out | apply below_alloc | apply pw_below_drewN | apply below_drew1 | refine below_set ?_ GE121.out) | exact HB.out)⟩⟩
                        · rw [if_neg c45] at H
                          have c45b0 : (t125 == (wrap64 (Int.tmod (IntKind.u64.wrap (a0)) 4))) = false := beq_eq_false_iff_ne.mpr c45
                          have c45b1 : (t125 != (wrap64 (Int.tmod (IntKind.u64.wrap (a0)) 4))) = true := bne_iff_ne.mpr c45
                          obtain rfl := Option.some.inj H
                          have hcz47_0 : wc.cell? ⟨gb121, 0, none⟩ = some (.bool x122000_1) := (blk_cell BK121.out 0).trans rfl
                          have hcz47_1 : wc.cell? ⟨gb121, 1, none⟩ = some (.bool x122001_1) := (blk_cell BK121.out 1).trans rfl
                          have hcz47_2 : wc.cell? ⟨gb121, 2, none⟩ = some (.bool x122002_1) := (blk_cell BK121.out 2).trans rfl
                          have hcz47_3 : wc.cell? ⟨gb121, 3, none⟩ = some (.bool x122003_1) := (blk_cell BK121.out 3).trans rfl
                          have hfz47_0 := blk_frozen BK121.out 0
                          have hfz47_1 := blk_frozen BK121.out 1
                          have hfz47_2 := blk_frozen BK121.out 2
                          have hfz47_3 := blk_frozen BK121.out 3
                          go_wp2_with (first | ((with_reducible refine gate_callee (f := 20) rfl ?_); refine goesL_ (some 72) rfl rfl Try.func20 (by kernel_rfl) rfl #[.int .i64 3, .int .i64 (wrap64 ((wrap64 (Int.tmod (IntKind.u64.wrap (a1)) 1099511627776)) + x12_1))] rfl (by (try simp only [List.map_toArray, List.map_cons, List.map_nil]); first | done | rfl | (simp only [List.length_drop, List.length_take]; rfl)) ?_; (with_reducible refine (pattern_Stream.calls 3 (wrap64 ((wrap64 (Int.tmod (IntKind.u64.wrap (a1)) 1099511627776)) + x12_1)) t125 t126 _ A43.out).mono ?_); rintro e w' ⟨rfl, ⟨nd, rfl⟩⟩; refine ⟨_, rfl, ?_⟩))
                          go_ret
                          exact ⟨by first | rfl | (simp [errW_none, errW_some] <;> rfl) | (simp [*, errW_none, errW_some] <;> rfl), by repeat (first | (with_reducible first | exact HB.out | apply below_alloc | apply pw_below_drewN | apply below_drew1 | refine below_set ?_ GE121.out) | exact HB.out)⟩
                      · rw [if_neg c44] at H
                        have c44b0 : (t126 == 0) = false := beq_eq_false_iff_ne.mpr c44
                        have c44b1 : (t126 != 0) = true := bne_iff_ne.mpr c44
                        obtain rfl := Option.some.inj H
                        have hcz48_0 : wc.cell? ⟨gb121, 0, none⟩ = some (.bool x122000_1) := (blk_cell BK121.out 0).trans rfl
                        have hcz48_1 : wc.cell? ⟨gb121, 1, none⟩ = some (.bool x122001_1) := (blk_cell BK121.out 1).trans rfl
                        have hcz48_2 : wc.cell? ⟨gb121, 2, none⟩ = some (.bool x122002_1) := (blk_cell BK121.out 2).trans rfl
                        have hcz48_3 : wc.cell? ⟨gb121, 3, none⟩ = some (.bool x122003_1) := (blk_cell BK121.out 3).trans rfl
                        have hfz48_0 := blk_frozen BK121.out 0
                        have hfz48_1 := blk_frozen BK121.out 1
                        have hfz48_2 := blk_frozen BK121.out 2
                        have hfz48_3 := blk_frozen BK121.out 3
                        go_wp2_with (first | ((with_reducible refine gate_callee (f := 20) rfl ?_); refine goesL_ (some 72) rfl rfl Try.func20 (by kernel_rfl) rfl #[.int .i64 3, .int .i64 (wrap64 ((wrap64 (Int.tmod (IntKind.u64.wrap (a1)) 1099511627776)) + x12_1))] rfl (by (try simp only [List.map_toArray, List.map_cons, List.map_nil]); first | done | rfl | (simp only [List.length_drop, List.length_take]; rfl)) ?_; (with_reducible refine (pattern_Stream.calls 3 (wrap64 ((wrap64 (Int.tmod (IntKind.u64.wrap (a1)) 1099511627776)) + x12_1)) t125 t126 _ A43.out).mono ?_); rintro e w' ⟨rfl, ⟨nd, rfl⟩⟩; refine ⟨_, rfl, ?_⟩))
                        go_ret
                        exact ⟨by first | rfl | (simp [errW_none, errW_some] <;> rfl) | (simp [*, errW_none, errW_some] <;> rfl), by repeat (first | (with_reducible first | exact HB.out | apply below_alloc | apply pw_below_drewN | apply below_drew1 | refine below_set ?_ GE121.out) | exact HB.out)⟩
                    · rw [if_neg c42] at H
                      clear c42
                      exact absurd H (by simp)
      · rw [if_neg c6] at H
        have c6b0 : decide (x12_1 < 4) = false := decide_eq_false c6
        clear c6
        replace H := Option.bind_eq_some_iff.mp H
        obtain ⟨t122, A490, H⟩ := H
        replace H : (if t122 = true then (if t118 = 0 then (if t120 = 0 then (some (t117 == t119)) else (some false)) else (some false)) else (some false)) = some r := H
        have A49 := Aside0.mk A490
        clear A490
        by_cases c50 : t122 = true
        · subst c50
          have H1 : (if t118 = 0 then (if t120 = 0 then (some (t117 == t119)) else (some false)) else (some false)) = some r := by rw [if_pos rfl] at H; exact H
          clear H
          have H := H1
          clear H1
          by_cases c51 : t118 = 0
          · rw [if_pos c51] at H
            have c51b0 : (t118 == 0) = true := beq_iff_eq.mpr c51
            have c51b1 : (t118 != 0) = false := bne_eq_false_iff_eq.mpr c51
            clear c51
            by_cases c52 : t120 = 0
            · rw [if_pos c52] at H
              have c52b0 : (t120 == 0) = true := beq_iff_eq.mpr c52
              have c52b1 : (t120 != 0) = false := bne_eq_false_iff_eq.mpr c52
              clear c52
              obtain rfl := Option.some.inj H
              go_wp2_with (first | ((with_reducible refine gate_callee (f := 17) rfl ?_); refine goesL_ (some 82) rfl rfl Try.func17 (by kernel_rfl) rfl #[] rfl (by (try simp only [List.map_toArray, List.map_cons, List.map_nil]); first | done | rfl | (simp only [List.length_drop, List.length_take]; rfl)) ?_; (with_reducible refine (shuttlelaw10_stands.calls k1  true _ A49.out).mono ?_); rintro e w53 ⟨rfl, hb⟩; refine ⟨_, rfl, ?_⟩; have n0_ := Aside0.mk (blk_below (g := gb121) (o := .cells #[.bool x122000_1, .bool x122001_1, .bool x122002_1, .bool x122003_1] 38 (0, 0)) (by (with_reducible repeat (first | refine blk_drewN ?_ _ | refine blk_drew ?_ | refine blk_alloc ?_ _)); exact BK121.out) hb); have n1_ := Aside0.mk (below_step (by repeat (first | (with_reducible first | exact HB.out | apply below_alloc | apply pw_below_drewN | apply below_drew1 | refine below_set ?_ GE121.out) | exact HB.out)) hb); clear BK121; clear HB; have BK121 := n0_; have HB := n1_; clear n0_ n1_; (try clear hb); (try clear hb2); (try clear hk); (try clear hi)))
              go_ret
              exact ⟨by first | rfl | (simp [errW_none, errW_some] <;> rfl) | (simp [*, errW_none, errW_some] <;> rfl), by repeat (first | (with_reducible first | exact HB.out | apply below_alloc | apply pw_below_drewN | apply below_drew1 | refine below_set ?_ GE121.out) | exact HB.out)⟩
            · rw [if_neg c52] at H
              have c52b0 : (t120 == 0) = false := beq_eq_false_iff_ne.mpr c52
              have c52b1 : (t120 != 0) = true := bne_iff_ne.mpr c52
              obtain rfl := Option.some.inj H
              go_wp2_with (first | ((with_reducible refine gate_callee (f := 17) rfl ?_); refine goesL_ (some 82) rfl rfl Try.func17 (by kernel_rfl) rfl #[] rfl (by (try simp only [List.map_toArray, List.map_cons, List.map_nil]); first | done | rfl | (simp only [List.length_drop, List.length_take]; rfl)) ?_; (with_reducible refine (shuttlelaw10_stands.calls k1  true _ A49.out).mono ?_); rintro e w54 ⟨rfl, hb⟩; refine ⟨_, rfl, ?_⟩; have n0_ := Aside0.mk (blk_below (g := gb121) (o := .cells #[.bool x122000_1, .bool x122001_1, .bool x122002_1, .bool x122003_1] 38 (0, 0)) (by (with_reducible repeat (first | refine blk_drewN ?_ _ | refine blk_drew ?_ | refine blk_alloc ?_ _)); exact BK121.out) hb); have n1_ := Aside0.mk (below_step (by repeat (first | (with_reducible first | exact HB.out | apply below_alloc | apply pw_below_drewN | apply below_drew1 | refine below_set ?_ GE121.out) | exact HB.out)) hb); clear BK121; clear HB; have BK121 := n0_; have HB := n1_; clear n0_ n1_; (try clear hb); (try clear hb2); (try clear hk); (try clear hi)))
              go_ret
              exact ⟨by first | rfl | (simp [errW_none, errW_some] <;> rfl) | (simp [*, errW_none, errW_some] <;> rfl), by repeat (first | (with_reducible first | exact HB.out | apply below_alloc | apply pw_below_drewN | apply below_drew1 | refine below_set ?_ GE121.out) | exact HB.out)⟩
          · rw [if_neg c51] at H
            have c51b0 : (t118 == 0) = false := beq_eq_false_iff_ne.mpr c51
            have c51b1 : (t118 != 0) = true := bne_iff_ne.mpr c51
            obtain rfl := Option.some.inj H
            go_wp2_with (first | ((with_reducible refine gate_callee (f := 17) rfl ?_); refine goesL_ (some 82) rfl rfl Try.func17 (by kernel_rfl) rfl #[] rfl (by (try simp only [List.map_toArray, List.map_cons, List.map_nil]); first | done | rfl | (simp only [List.length_drop, List.length_take]; rfl)) ?_; (with_reducible refine (shuttlelaw10_stands.calls k1  true _ A49.out).mono ?_); rintro e w55 ⟨rfl, hb⟩; refine ⟨_, rfl, ?_⟩; have n0_ := Aside0.mk (blk_below (g := gb121) (o := .cells #[.bool x122000_1, .bool x122001_1, .bool x122002_1, .bool x122003_1] 38 (0, 0)) (by (with_reducible repeat (first | refine blk_drewN ?_ _ | refine blk_drew ?_ | refine blk_alloc ?_ _)); exact BK121.out) hb); have n1_ := Aside0.mk (below_step (by repeat (first | (with_reducible first | exact HB.out | apply below_alloc | apply pw_below_drewN | apply below_drew1 | refine below_set ?_ GE121.out) | exact HB.out)) hb); clear BK121; clear HB; have BK121 := n0_; have HB := n1_; clear n0_ n1_; (try clear hb); (try clear hb2); (try clear hk); (try clear hi)))
            go_ret
            exact ⟨by first | rfl | (simp [errW_none, errW_some] <;> rfl) | (simp [*, errW_none, errW_some] <;> rfl), by repeat (first | (with_reducible first | exact HB.out | apply below_alloc | apply pw_below_drewN | apply below_drew1 | refine below_set ?_ GE121.out) | exact HB.out)⟩
        · replace c50 := Bool.eq_false_iff.mpr c50
          subst c50
          have H1 : (some false) = some r := by rw [if_neg (show ¬ (false = true) by decide)] at H; exact H
          clear H
          have H := H1
          clear H1
          obtain rfl := Option.some.inj H
          go_wp2_with (first | ((with_reducible refine gate_callee (f := 17) rfl ?_); refine goesL_ (some 82) rfl rfl Try.func17 (by kernel_rfl) rfl #[] rfl (by (try simp only [List.map_toArray, List.map_cons, List.map_nil]); first | done | rfl | (simp only [List.length_drop, List.length_take]; rfl)) ?_; (with_reducible refine (shuttlelaw10_stands.calls k1  false _ A49.out).mono ?_); rintro e w56 ⟨rfl, hb⟩; refine ⟨_, rfl, ?_⟩; have n0_ := Aside0.mk (blk_below (g := gb121) (o := .cells #[.bool x122000_1, .bool x122001_1, .bool x122002_1, .bool x122003_1] 38 (0, 0)) (by (with_reducible repeat (first | refine blk_drewN ?_ _ | refine blk_drew ?_ | refine blk_alloc ?_ _)); exact BK121.out) hb); have n1_ := Aside0.mk (below_step (by repeat (first | (with_reducible first | exact HB.out | apply below_alloc | apply pw_below_drewN | apply below_drew1 | refine below_set ?_ GE121.out) | exact HB.out)) hb); clear BK121; clear HB; have BK121 := n0_; have HB := n1_; clear n0_ n1_; (try clear hb); (try clear hb2); (try clear hk); (try clear hi)))
          go_ret
          exact ⟨by first | rfl | (simp [errW_none, errW_some] <;> rfl) | (simp [*, errW_none, errW_some] <;> rfl), by repeat (first | (with_reducible first | exact HB.out | apply below_alloc | apply pw_below_drewN | apply below_drew1 | refine below_set ?_ GE121.out) | exact HB.out)⟩

/-- THE ONE PURE STATEMENT of shuttlelaw10_PatternRound: yours. -/
def shuttlelaw10_PatternRound.Pure : Prop := ∀ (a0 : Int) (a1 : Int), (Lit.int .i64 a0).wf = true → (Lit.int .i64 a1).wf = true → ∃ k, shuttlelaw10_PatternRound.f k a0 a1 = some true
theorem shuttlelaw10_PatternRound.walk (P : shuttlelaw10_PatternRound.Pure) (a0 : Int) (a1 : Int) (w : World) (w0 : (Lit.int .i64 a0).wf = true) (w1 : (Lit.int .i64 a1).wf = true) :
    Calls Try.prog 6 #[.int .i64 a0, .int .i64 a1] w fun e w' => e = .returned (.bool true) ∧ Below w.heap.size w w' := by
  obtain ⟨k, h⟩ := P a0 a1 w0 w1
  refine (shuttlelaw10_PatternRound.calls k a0 a1 true w h).mono ?_
  rintro e w' ⟨rfl, hd⟩
  exact ⟨rfl, hd⟩

end Go.Proofs.Ytkhpgjojbdgkfaa.Z
