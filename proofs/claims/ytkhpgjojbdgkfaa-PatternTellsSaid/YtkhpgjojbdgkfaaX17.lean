-- Made by xprint.py (an own driver round the kit's print.py), with contracts of this session's own. Lean checks it.
import Derived.Test.YtkhpgjojbdgkfaaX0
import Derived.Test.YtkhpgjojbdgkfaaX6
import Derived.Test.YtkhpgjojbdgkfaaX8
import Derived.Test.YtkhpgjojbdgkfaaX9
import Derived.Test.YtkhpgjojbdgkfaaX11
import Derived.Test.YtkhpgjojbdgkfaaX15
import Derived.Test.YtkhpgjojbdgkfaaX16
namespace Go.Proofs.Ytkhpgjojbdgkfaa.X
open Go.RowKit Go.Proofs.YtkhpgjojbdgkfaaW.PrintWords Go.Proofs.YtkhpgjojbdgkfaaW.PrintLast Go.Proofs.YtkhpgjojbdgkfaaW.PrintMore
attribute [local go_sem] max2_int min2_int max_two min_two max_three min_three max_four min_four   -- for this text's walks alone
set_option linter.unusedVariables false
set_option linter.unusedSimpArgs false

/-! ### shuttlelaw10_PatternTells: function 11 -/
mutual
def shuttlelaw10_PatternTells.l0 : Nat → Int → Int → Int → Int → Int → Int → Int → Int → Int → Int → Int → Option (Bool)
  | 0, _, _, _, _, _, _, _, _, _, _, _ => none
  | k + 1, x0, x1, x2, x7, x8, x9, x10, x11, x12, x13, x14 => if x14 < 4 then (if 0 ≤ x14 then (shuttlelaw10_PatternTells.l0 k x0 x1 x2 x7 x8 x9 x10 x11 x12 (wrap64 (x13 + (Go.bits .and .i64 (shr .i64 x2 x14) 1))) (wrap64 (x14 + 1))) else (none)) else (if x2 < 0 then (if (true != (x12 == 1)) = true then (shuttlelaw10_PatternTells.j1 k x0 x1 x7 x8 x9 x10 true) else (if x12 = 0 then (shuttlelaw10_PatternTells.j1 k x0 x1 x7 x8 x9 x10 (x11 != x13)) else (shuttlelaw10_PatternTells.j1 k x0 x1 x7 x8 x9 x10 false))) else (if ((decide (x2 > 15)) != (x12 == 1)) = true then (shuttlelaw10_PatternTells.j1 k x0 x1 x7 x8 x9 x10 true) else (if x12 = 0 then (shuttlelaw10_PatternTells.j1 k x0 x1 x7 x8 x9 x10 (x11 != x13)) else (shuttlelaw10_PatternTells.j1 k x0 x1 x7 x8 x9 x10 false))))
def shuttlelaw10_PatternTells.j1 : Nat → Int → Int → Int → Int → Int → Int → Bool → Option (Bool)
  | 0, _, _, _, _, _, _, _ => none
  | k + 1, x0, x1, x7, x8, x9, x10, x61 => if x61 = true then (some false) else (if x0 < 0 then (shuttlelaw10_PatternTells.j2 k x0 x1 x7 x8 x9 x10 true) else (if x0 > 3 then (shuttlelaw10_PatternTells.j2 k x0 x1 x7 x8 x9 x10 true) else (shuttlelaw10_PatternTells.j2 k x0 x1 x7 x8 x9 x10 (decide (x1 < 0)))))
def shuttlelaw10_PatternTells.j2 : Nat → Int → Int → Int → Int → Int → Int → Bool → Option (Bool)
  | 0, _, _, _, _, _, _, _ => none
  | k + 1, x0, x1, x7, x8, x9, x10, x71 => if x71 = true then (if x8 = 1 then (if x10 = 1 then (if x7 = 0 then (some (x9 == 0)) else (some false)) else (some false)) else (some false)) else (if x8 = 0 then (if x10 = 0 then ((shuttleref10_Stream.f x0 x1).bind fun t166 => (if x7 = t166 then ((shuttleref10_Version.f k x0 x1).bind fun t167 => (some (x9 == t167))) else (some false))) else (some false)) else (some false))
end
def shuttlelaw10_PatternTells.f (k : Nat) (a0 : Int) (a1 : Int) (a2 : Int) : Option (Bool) := (pattern_Stream.f a0 a1).bind fun bt159 => ((pattern_Version.f a0 a1).bind fun bt161 => ((pattern_Rate.f a2).bind fun bt163 => ((shuttlelaw10_stands.f k).bind fun t165 => (if t165 = true then (shuttlelaw10_PatternTells.l0 k a0 a1 a2 bt159.1 bt159.2 bt161.1 bt161.2 bt163.1 bt163.2 0 0) else (some false)))))
theorem shuttlelaw10_PatternTells.mono_l : ∀ k, (∀ y0 y1 y2 y3 y4 y5 y6 y7 y8 y9 y10, LeO (shuttlelaw10_PatternTells.l0 k y0 y1 y2 y3 y4 y5 y6 y7 y8 y9 y10) (shuttlelaw10_PatternTells.l0 (k + 1) y0 y1 y2 y3 y4 y5 y6 y7 y8 y9 y10)) ∧ (∀ y0 y1 y2 y3 y4 y5 y6, LeO (shuttlelaw10_PatternTells.j1 k y0 y1 y2 y3 y4 y5 y6) (shuttlelaw10_PatternTells.j1 (k + 1) y0 y1 y2 y3 y4 y5 y6)) ∧ (∀ y0 y1 y2 y3 y4 y5 y6, LeO (shuttlelaw10_PatternTells.j2 k y0 y1 y2 y3 y4 y5 y6) (shuttlelaw10_PatternTells.j2 (k + 1) y0 y1 y2 y3 y4 y5 y6))
  | 0 => ⟨fun _ _ _ _ _ _ _ _ _ _ _ r h => by simp [shuttlelaw10_PatternTells.l0] at h, fun _ _ _ _ _ _ _ r h => by simp [shuttlelaw10_PatternTells.j1] at h, fun _ _ _ _ _ _ _ r h => by simp [shuttlelaw10_PatternTells.j2] at h⟩
  | k + 1 => by
    obtain ⟨ih0, ih1, ih2⟩ := shuttlelaw10_PatternTells.mono_l k
    refine ⟨?_, ?_, ?_⟩
    · intro y0 y1 y2 y3 y4 y5 y6 y7 y8 y9 y10
      unfold shuttlelaw10_PatternTells.l0
      repeat' first
      | (with_reducible exact ih0 _ _ _ _ _ _ _ _ _ _ _)
      | (with_reducible exact ih1 _ _ _ _ _ _ _)
      | (with_reducible exact ih2 _ _ _ _ _ _ _)
      | (with_reducible exact shuttlelaw10_stands.mono _)
      | (with_reducible exact shuttleref10_Version.mono _ _ _)
      | (with_reducible exact LeO.refl _)
      | (with_reducible exact LeO.none _)
      | (with_reducible refine LeO.ite ?_ ?_)
      | (with_reducible refine LeO.bind ?_ (fun _ => ?_))
      | exact ih0 _ _ _ _ _ _ _ _ _ _ _
      | exact ih1 _ _ _ _ _ _ _
      | exact ih2 _ _ _ _ _ _ _
      | exact shuttlelaw10_stands.mono _
      | exact shuttleref10_Version.mono _ _ _
      | exact LeO.none _
      | refine LeO.ite ?_ ?_
      | refine LeO.bind ?_ (fun _ => ?_)
    · intro y0 y1 y2 y3 y4 y5 y6
      unfold shuttlelaw10_PatternTells.j1
      repeat' first
      | (with_reducible exact ih0 _ _ _ _ _ _ _ _ _ _ _)
      | (with_reducible exact ih1 _ _ _ _ _ _ _)
      | (with_reducible exact ih2 _ _ _ _ _ _ _)
      | (with_reducible exact shuttlelaw10_stands.mono _)
      | (with_reducible exact shuttleref10_Version.mono _ _ _)
      | (with_reducible exact LeO.refl _)
      | (with_reducible exact LeO.none _)
      | (with_reducible refine LeO.ite ?_ ?_)
      | (with_reducible refine LeO.bind ?_ (fun _ => ?_))
      | exact ih0 _ _ _ _ _ _ _ _ _ _ _
      | exact ih1 _ _ _ _ _ _ _
      | exact ih2 _ _ _ _ _ _ _
      | exact shuttlelaw10_stands.mono _
      | exact shuttleref10_Version.mono _ _ _
      | exact LeO.none _
      | refine LeO.ite ?_ ?_
      | refine LeO.bind ?_ (fun _ => ?_)
    · intro y0 y1 y2 y3 y4 y5 y6
      unfold shuttlelaw10_PatternTells.j2
      repeat' first
      | (with_reducible exact ih0 _ _ _ _ _ _ _ _ _ _ _)
      | (with_reducible exact ih1 _ _ _ _ _ _ _)
      | (with_reducible exact ih2 _ _ _ _ _ _ _)
      | (with_reducible exact shuttlelaw10_stands.mono _)
      | (with_reducible exact shuttleref10_Version.mono _ _ _)
      | (with_reducible exact LeO.refl _)
      | (with_reducible exact LeO.none _)
      | (with_reducible refine LeO.ite ?_ ?_)
      | (with_reducible refine LeO.bind ?_ (fun _ => ?_))
      | exact ih0 _ _ _ _ _ _ _ _ _ _ _
      | exact ih1 _ _ _ _ _ _ _
      | exact ih2 _ _ _ _ _ _ _
      | exact shuttlelaw10_stands.mono _
      | exact shuttleref10_Version.mono _ _ _
      | exact LeO.none _
      | refine LeO.ite ?_ ?_
      | refine LeO.bind ?_ (fun _ => ?_)
theorem shuttlelaw10_PatternTells.mono : ∀ a0 a1 a2 k, LeO (shuttlelaw10_PatternTells.f k a0 a1 a2) (shuttlelaw10_PatternTells.f (k + 1) a0 a1 a2) := by
  intro a0 a1 a2 k
  obtain ⟨ih0, ih1, ih2⟩ := shuttlelaw10_PatternTells.mono_l k
  unfold shuttlelaw10_PatternTells.f
  repeat' first
      | (with_reducible exact ih0 _ _ _ _ _ _ _ _ _ _ _)
      | (with_reducible exact ih1 _ _ _ _ _ _ _)
      | (with_reducible exact ih2 _ _ _ _ _ _ _)
      | (with_reducible exact shuttlelaw10_stands.mono _)
      | (with_reducible exact shuttleref10_Version.mono _ _ _)
      | (with_reducible exact LeO.refl _)
      | (with_reducible exact LeO.none _)
      | (with_reducible refine LeO.ite ?_ ?_)
      | (with_reducible refine LeO.bind ?_ (fun _ => ?_))
      | exact ih0 _ _ _ _ _ _ _ _ _ _ _
      | exact ih1 _ _ _ _ _ _ _
      | exact ih2 _ _ _ _ _ _ _
      | exact shuttlelaw10_stands.mono _
      | exact shuttleref10_Version.mono _ _ _
      | exact LeO.none _
      | refine LeO.ite ?_ ?_
      | refine LeO.bind ?_ (fun _ => ?_)
set_option maxHeartbeats 8000000 in
set_option maxRecDepth 100000 in
theorem shuttlelaw10_PatternTells.calls (k : Nat) (a0 : Int) (a1 : Int) (a2 : Int) (r : Bool) (w : World) (h : shuttlelaw10_PatternTells.f k a0 a1 a2 = some r) :
    Calls Try.prog 11 #[.int .i64 a0, .int .i64 a1, .int .i64 a2] w fun e w' => e = .returned (.bool r) ∧ Below w.heap.size w w' := by
  have HB := Aside0.mk (Below.refl w.heap.size w)
  have H : ((pattern_Stream.f a0 a1).bind fun bt159 => ((pattern_Version.f a0 a1).bind fun bt161 => ((pattern_Rate.f a2).bind fun bt163 => ((shuttlelaw10_stands.f k).bind fun t165 => (if t165 = true then (shuttlelaw10_PatternTells.l0 k a0 a1 a2 bt159.1 bt159.2 bt161.1 bt161.2 bt163.1 bt163.2 0 0) else (some false)))))) = some r := h
  clear h
  replace H := Option.bind_eq_some_iff.mp H
  obtain ⟨⟨t159, t160⟩, A40, H⟩ := H
  replace H : ((pattern_Version.f a0 a1).bind fun bt161 => ((pattern_Rate.f a2).bind fun bt163 => ((shuttlelaw10_stands.f k).bind fun t165 => (if t165 = true then (shuttlelaw10_PatternTells.l0 k a0 a1 a2 t159 t160 bt161.1 bt161.2 bt163.1 bt163.2 0 0) else (some false))))) = some r := H
  have A4 := Aside0.mk A40
  clear A40
  replace H := Option.bind_eq_some_iff.mp H
  obtain ⟨⟨t161, t162⟩, A50, H⟩ := H
  replace H : ((pattern_Rate.f a2).bind fun bt163 => ((shuttlelaw10_stands.f k).bind fun t165 => (if t165 = true then (shuttlelaw10_PatternTells.l0 k a0 a1 a2 t159 t160 t161 t162 bt163.1 bt163.2 0 0) else (some false)))) = some r := H
  have A5 := Aside0.mk A50
  clear A50
  replace H := Option.bind_eq_some_iff.mp H
  obtain ⟨⟨t163, t164⟩, A60, H⟩ := H
  replace H : ((shuttlelaw10_stands.f k).bind fun t165 => (if t165 = true then (shuttlelaw10_PatternTells.l0 k a0 a1 a2 t159 t160 t161 t162 t163 t164 0 0) else (some false))) = some r := H
  have A6 := Aside0.mk A60
  clear A60
  replace H := Option.bind_eq_some_iff.mp H
  obtain ⟨t165, A70, H⟩ := H
  replace H : (if t165 = true then (shuttlelaw10_PatternTells.l0 k a0 a1 a2 t159 t160 t161 t162 t163 t164 0 0) else (some false)) = some r := H
  have A7 := Aside0.mk A70
  clear A70
  by_cases c8 : t165 = true
  · subst c8
    have H1 : (shuttlelaw10_PatternTells.l0 k a0 a1 a2 t159 t160 t161 t162 t163 t164 0 0) = some r := by rw [if_pos rfl] at H; exact H
    clear H
    have H := H1
    clear H1
    have H' := Aside0.mk H
    clear H
    go_enter Try.func11, Try.ntmps11
    go_wp2_with (first | ((with_reducible refine gate_callee (f := 20) rfl ?_); refine goesL_ (some 18) rfl rfl Try.func20 (by kernel_rfl) rfl #[.int .i64 a0, .int .i64 a1] rfl (by (try simp only [List.map_toArray, List.map_cons, List.map_nil]); first | done | rfl | (simp only [List.length_drop, List.length_take]; rfl)) ?_; (with_reducible refine (pattern_Stream.calls a0 a1 t159 t160 _ A4.out).mono ?_); rintro e w' ⟨rfl, ⟨nd, rfl⟩⟩; refine ⟨_, rfl, ?_⟩) | ((with_reducible refine gate_callee (f := 19) rfl ?_); refine goesL_ (some 24) rfl rfl Try.func19 (by kernel_rfl) rfl #[.int .i64 a0, .int .i64 a1] rfl (by (try simp only [List.map_toArray, List.map_cons, List.map_nil]); first | done | rfl | (simp only [List.length_drop, List.length_take]; rfl)) ?_; (with_reducible refine (pattern_Version.calls a0 a1 t161 t162 _ A5.out).mono ?_); rintro e w' ⟨rfl, ⟨nd, rfl⟩⟩; refine ⟨_, rfl, ?_⟩) | ((with_reducible refine gate_callee (f := 31) rfl ?_); refine goesL_ (some 29) rfl rfl Try.func31 (by kernel_rfl) rfl #[.int .i64 a2] rfl (by (try simp only [List.map_toArray, List.map_cons, List.map_nil]); first | done | rfl | (simp only [List.length_drop, List.length_take]; rfl)) ?_; (with_reducible refine (pattern_Rate.calls a2 t163 t164 _ A6.out).mono ?_); rintro e w' ⟨rfl, ⟨nd, rfl⟩⟩; refine ⟨_, rfl, ?_⟩) | ((with_reducible refine gate_callee (f := 17) rfl ?_); refine goesL_ (some 32) rfl rfl Try.func17 (by kernel_rfl) rfl #[] rfl (by (try simp only [List.map_toArray, List.map_cons, List.map_nil]); first | done | rfl | (simp only [List.length_drop, List.length_take]; rfl)) ?_; (with_reducible refine (shuttlelaw10_stands.calls k  true _ A7.out).mono ?_); rintro e w9 ⟨rfl, hb⟩; refine ⟨_, rfl, ?_⟩; have n0_ := Aside0.mk (below_step (by repeat (first | (with_reducible first | exact HB.out | apply below_alloc | apply pw_below_drewN | apply below_drew1) | exact HB.out)) hb); clear HB; have HB := n0_; clear n0_; (try clear hb); (try clear hb2); (try clear hk); (try clear hi)))
    go_loopg [13, 14] k (fun kq v13 v14 w' => ∃ (x13_1 : Int) (x14_1 : Int), v13 = .int .i64 x13_1 ∧ v14 = .int .i64 x14_1 ∧ Aside0 (shuttlelaw10_PatternTells.l0 kq a0 a1 a2 t159 t160 t161 t162 t163 t164 x13_1 x14_1 = some r) ∧ Aside0 (kq ≤ k) ∧ Aside0 (Below w.heap.size w w'))
    case atStart => exact ⟨(0), (0), (by first | rfl | (simp; done) | (simp [*]; done)), (by first | rfl | (simp; done) | (simp [*]; done)), H', ⟨Nat.le_refl _⟩, ⟨by repeat (first | (with_reducible first | exact HB.out | apply below_alloc | apply pw_below_drewN | apply below_drew1) | exact HB.out)⟩⟩
    case round =>
      clear H'
      try clear c1
      try clear c2
      try clear p2
      try clear c3
      try clear c8
      obtain ⟨x13_1, x14_1, rfl, rfl, HA, HK1, HB⟩ := hrel
      cases gk with
      | zero => exact absurd HA.out (by simp [shuttlelaw10_PatternTells.l0])
      | succ k1 =>
        have H := HA.out
        clear HA
        simp only [shuttlelaw10_PatternTells.l0] at H
        by_cases c10 : x14_1 < 4
        · rw [if_pos c10] at H
          have c10b0 : decide (x14_1 < 4) = true := decide_eq_true c10
          clear c10
          by_cases c11 : 0 ≤ x14_1
          · rw [if_pos c11] at H
            have c11b0 := eq_true c11
            have c11b1 : decide (0 ≤ x14_1) = true := decide_eq_true c11
            clear c11
            obtain ⟨ji12, hji12⟩ : ∃ j_ : Int, (shr .i64 a2 x14_1) = j_ := ⟨_, rfl⟩
            replace H : (shuttlelaw10_PatternTells.l0 k1 a0 a1 a2 t159 t160 t161 t162 t163 t164 (wrap64 (x13_1 + (Go.bits .and .i64 (ji12) 1))) (wrap64 (x14_1 + 1))) = some r := by first | (rw [hji12] at H; exact H) | (simp only [hji12] at H ⊢; exact H)
            have hji12_ : (a2 / 2 ^ min x14_1.toNat 64) = ji12 := hji12
            have hji12z : x14_1 ≤ 64 → (a2 / 2 ^ x14_1.toNat) = ji12 := shr_small hji12
            have H' := Aside0.mk H
            clear H
            go_wp2
            go_roundg k1
            case measure => have := HK1.out; omega
            case rel => exact ⟨(wrap64 (x13_1 + (Go.bits .and .i64 (ji12) 1))), (wrap64 (x14_1 + 1)), (by first | rfl | (simp; done) | (simp only [← hji12] <;> (first | rfl | simp)) | (simp [*]; done)), (by first | rfl | (simp; done) | (simp [*]; done)), H', ⟨by have := HK1.out; omega⟩, ⟨by repeat (first | (with_reducible first | exact HB.out | apply below_alloc | apply pw_below_drewN | apply below_drew1) | exact HB.out)⟩⟩
          · rw [if_neg c11] at H
            exact absurd H (by simp)
        · rw [if_neg c10] at H
          have c10b0 : decide (x14_1 < 4) = false := decide_eq_false c10
          clear c10
          have HC13 := Aside0.mk H
          clear H
          go_upto_region 11 with (fail)
          go_cut [61] (fun v61 wc => ∃ (kq : Nat) (x61_12 : Bool), v61 = .bool x61_12 ∧ Aside0 (shuttlelaw10_PatternTells.j1 kq a0 a1 t159 t160 t161 t162 x61_12 = some r) ∧ Aside0 (kq ≤ k1) ∧ Aside0 (Below w.heap.size w wc))
          case first =>
            have H := HC13.out
            clear HC13
            by_cases c14 : a2 < 0
            · rw [if_pos c14] at H
              have c14b0 : decide (a2 < 0) = true := decide_eq_true c14
              clear c14
              (first | rw [c14b0] | (simp only [i64_w, i32_w]; rw [c14b0]) | skip)
              by_cases c15 : (true != (t164 == 1)) = true
              · rw [if_pos c15] at H
                have c15b0 : (true != (t164 == 1)) = true := c15
                (try (have c15b1 : decide (true = (t164 == 1)) = false := by simpa using c15))
                (try (have c15b2 : (true == (t164 == 1)) = false := by simpa using c15))
                (try (have c15b3 : ¬ (true = (t164 == 1)) := by simpa using c15))
                clear c15
                have H' := Aside0.mk H
                clear H
                go_wp2
                go_meet
                case rel => exact ⟨_, (true), (by first | rfl | (simp; done) | (simp [*]; done)), H', ⟨by have := HK1.out; first | omega | exact Nat.le_refl _⟩, ⟨by repeat (first | (with_reducible first | exact HB.out | apply below_alloc | apply pw_below_drewN | apply below_drew1) | exact HB.out)⟩⟩
              · rw [if_neg c15] at H
                have c15b0 : (true != (t164 == 1)) = false := by simpa using c15
                (try (have c15b1 : decide (true = (t164 == 1)) = true := by simpa using c15))
                (try (have c15b2 : (true == (t164 == 1)) = true := by simpa using c15))
                clear c15
                by_cases c16 : t164 = 0
                · rw [if_pos c16] at H
                  have c16b0 : (t164 == 0) = true := beq_iff_eq.mpr c16
                  have c16b1 : (t164 != 0) = false := bne_eq_false_iff_eq.mpr c16
                  clear c16
                  have H' := Aside0.mk H
                  clear H
                  go_wp2
                  go_meet
                  case rel => exact ⟨_, ((t163 != x13_1)), (by first | rfl | (simp; done) | (simp [*]; done)), H', ⟨by have := HK1.out; first | omega | exact Nat.le_refl _⟩, ⟨by repeat (first | (with_reducible first | exact HB.out | apply below_alloc | apply pw_below_drewN | apply below_drew1) | exact HB.out)⟩⟩
                · rw [if_neg c16] at H
                  have c16b0 : (t164 == 0) = false := beq_eq_false_iff_ne.mpr c16
                  have c16b1 : (t164 != 0) = true := bne_iff_ne.mpr c16
                  have H' := Aside0.mk H
                  clear H
                  go_wp2
                  go_meet
                  case rel => exact ⟨_, (false), (by first | rfl | (simp; done) | (simp [*]; done)), H', ⟨by have := HK1.out; first | omega | exact Nat.le_refl _⟩, ⟨by repeat (first | (with_reducible first | exact HB.out | apply below_alloc | apply pw_below_drewN | apply below_drew1) | exact HB.out)⟩⟩
            · rw [if_neg c14] at H
              have c14b0 : decide (a2 < 0) = false := decide_eq_false c14
              clear c14
              (first | rw [c14b0] | (simp only [i64_w, i32_w]; rw [c14b0]) | skip)
              by_cases c17 : ((decide (a2 > 15)) != (t164 == 1)) = true
              · rw [if_pos c17] at H
                have c17b0 : ((decide (a2 > 15)) != (t164 == 1)) = true := c17
                (try (have c17b1 : decide ((decide (a2 > 15)) = (t164 == 1)) = false := by simpa using c17))
                (try (have c17b2 : ((decide (a2 > 15)) == (t164 == 1)) = false := by simpa using c17))
                (try (have c17b3 : ¬ ((decide (a2 > 15)) = (t164 == 1)) := by simpa using c17))
                clear c17
                have H' := Aside0.mk H
                clear H
                go_wp2
                go_meet
                case rel => exact ⟨_, (true), (by first | rfl | (simp; done) | (simp [*]; done)), H', ⟨by have := HK1.out; first | omega | exact Nat.le_refl _⟩, ⟨by repeat (first | (with_reducible first | exact HB.out | apply below_alloc | apply pw_below_drewN | apply below_drew1) | exact HB.out)⟩⟩
              · rw [if_neg c17] at H
                have c17b0 : ((decide (a2 > 15)) != (t164 == 1)) = false := by simpa using c17
                (try (have c17b1 : decide ((decide (a2 > 15)) = (t164 == 1)) = true := by simpa using c17))
                (try (have c17b2 : ((decide (a2 > 15)) == (t164 == 1)) = true := by simpa using c17))
                clear c17
                by_cases c18 : t164 = 0
                · rw [if_pos c18] at H
                  have c18b0 : (t164 == 0) = true := beq_iff_eq.mpr c18
                  have c18b1 : (t164 != 0) = false := bne_eq_false_iff_eq.mpr c18
                  clear c18
                  have H' := Aside0.mk H
                  clear H
                  go_wp2
                  go_meet
                  case rel => exact ⟨_, ((t163 != x13_1)), (by first | rfl | (simp; done) | (simp [*]; done)), H', ⟨by have := HK1.out; first | omega | exact Nat.le_refl _⟩, ⟨by repeat (first | (with_reducible first | exact HB.out | apply below_alloc | apply pw_below_drewN | apply below_drew1) | exact HB.out)⟩⟩
                · rw [if_neg c18] at H
                  have c18b0 : (t164 == 0) = false := beq_eq_false_iff_ne.mpr c18
                  have c18b1 : (t164 != 0) = true := bne_iff_ne.mpr c18
                  have H' := Aside0.mk H
                  clear H
                  go_wp2
                  go_meet
                  case rel => exact ⟨_, (false), (by first | rfl | (simp; done) | (simp [*]; done)), H', ⟨by have := HK1.out; first | omega | exact Nat.le_refl _⟩, ⟨by repeat (first | (with_reducible first | exact HB.out | apply below_alloc | apply pw_below_drewN | apply below_drew1) | exact HB.out)⟩⟩
          case rest =>
            clear HC13
            try clear c1
            try clear c2
            try clear p2
            try clear c3
            try clear p6
            try clear c8
            try clear c10
            try clear c10b0
            try clear c11
            try clear c11b0
            try clear c11b1
            try clear c14
            try clear c14b0
            try clear c15
            try clear c15b0
            try clear c15b1
            try clear c15b2
            try clear c16
            try clear c16b0
            try clear c16b1
            try clear c17
            try clear c17b0
            try clear c17b1
            try clear c17b2
            try clear c18
            try clear c18b0
            try clear c18b1
            try clear p2
            obtain ⟨kq, x61_12, rfl, HA, HJ12, HB⟩ := hcut
            cases kq with
            | zero => exact absurd HA.out (by simp [shuttlelaw10_PatternTells.j1])
            | succ kj12 =>
              have H := HA.out
              clear HA
              simp only [shuttlelaw10_PatternTells.j1] at H
              by_cases c19 : x61_12 = true
              · subst c19
                have H1 : (some false) = some r := by rw [if_pos rfl] at H; exact H
                clear H
                have H := H1
                clear H1
                obtain rfl := Option.some.inj H
                go_wp2
                go_ret
                exact ⟨by first | rfl | (simp [errW_none, errW_some] <;> rfl) | (simp [*, errW_none, errW_some] <;> rfl), by repeat (first | (with_reducible first | exact HB.out | apply below_alloc | apply pw_below_drewN | apply below_drew1) | exact HB.out)⟩
              · replace c19 := Bool.eq_false_iff.mpr c19
                subst c19
                have H1 : (if a0 < 0 then (shuttlelaw10_PatternTells.j2 kj12 a0 a1 t159 t160 t161 t162 true) else (if a0 > 3 then (shuttlelaw10_PatternTells.j2 kj12 a0 a1 t159 t160 t161 t162 true) else (shuttlelaw10_PatternTells.j2 kj12 a0 a1 t159 t160 t161 t162 (decide (a1 < 0))))) = some r := by rw [if_neg (show ¬ (false = true) by decide)] at H; exact H
                clear H
                have H := H1
                clear H1
                have HC20 := Aside0.mk H
                clear H
                go_upto_region 13 with (fail)
                go_cut [71] (fun v71 wc => ∃ (kq : Nat) (x71_19 : Bool), v71 = .bool x71_19 ∧ Aside0 (shuttlelaw10_PatternTells.j2 kq a0 a1 t159 t160 t161 t162 x71_19 = some r) ∧ Aside0 (kq ≤ kj12) ∧ Aside0 (Below w.heap.size w wc))
                case first =>
                  have H := HC20.out
                  clear HC20
                  by_cases c21 : a0 < 0
                  · rw [if_pos c21] at H
                    have c21b0 : decide (a0 < 0) = true := decide_eq_true c21
                    clear c21
                    (first | rw [c21b0] | (simp only [i64_w, i32_w]; rw [c21b0]) | skip)
                    have H' := Aside0.mk H
                    clear H
                    go_wp2
                    go_meet
                    case rel => exact ⟨_, (true), (by first | rfl | (simp; done) | (simp [*]; done)), H', ⟨by have := HK1.out; have := HJ12.out; first | omega | exact Nat.le_refl _⟩, ⟨by repeat (first | (with_reducible first | exact HB.out | apply below_alloc | apply pw_below_drewN | apply below_drew1) | exact HB.out)⟩⟩
                  · rw [if_neg c21] at H
                    have c21b0 : decide (a0 < 0) = false := decide_eq_false c21
                    clear c21
                    (first | rw [c21b0] | (simp only [i64_w, i32_w]; rw [c21b0]) | skip)
                    by_cases c22 : a0 > 3
                    · rw [if_pos c22] at H
                      have c22b0 : decide (3 < a0) = true := decide_eq_true c22
                      clear c22
                      have H' := Aside0.mk H
                      clear H
                      go_wp2
                      go_meet
                      case rel => exact ⟨_, (true), (by first | rfl | (simp; done) | (simp [*]; done)), H', ⟨by have := HK1.out; have := HJ12.out; first | omega | exact Nat.le_refl _⟩, ⟨by repeat (first | (with_reducible first | exact HB.out | apply below_alloc | apply pw_below_drewN | apply below_drew1) | exact HB.out)⟩⟩
                    · rw [if_neg c22] at H
                      have c22b0 : decide (3 < a0) = false := decide_eq_false c22
                      clear c22
                      have H' := Aside0.mk H
                      clear H
                      go_wp2
                      go_meet
                      case rel => exact ⟨_, (decide (a1 < 0)), (by first | rfl | (simp; done) | (simp [*]; done)), H', ⟨by have := HK1.out; have := HJ12.out; first | omega | exact Nat.le_refl _⟩, ⟨by repeat (first | (with_reducible first | exact HB.out | apply below_alloc | apply pw_below_drewN | apply below_drew1) | exact HB.out)⟩⟩
                case rest =>
                  clear HC20
                  try clear c1
                  try clear c2
                  try clear p2
                  try clear c3
                  try clear p6
                  try clear c8
                  try clear c10
                  try clear c10b0
                  try clear c11
                  try clear c11b0
                  try clear c11b1
                  try clear c14
                  try clear c14b0
                  try clear c15
                  try clear c15b0
                  try clear c15b1
                  try clear c15b2
                  try clear c16
                  try clear c16b0
                  try clear c16b1
                  try clear c17
                  try clear c17b0
                  try clear c17b1
                  try clear c17b2
                  try clear c18
                  try clear c18b0
                  try clear c18b1
                  try clear c19
                  try clear c20
                  try clear c21
                  try clear c21b0
                  try clear c22
                  try clear c22b0
                  try clear p2
                  try clear p6
                  obtain ⟨kq, x71_19, rfl, HA, HJ19, HB⟩ := hcut
                  cases kq with
                  | zero => exact absurd HA.out (by simp [shuttlelaw10_PatternTells.j2])
                  | succ kj19 =>
                    have H := HA.out
                    clear HA
                    simp only [shuttlelaw10_PatternTells.j2] at H
                    by_cases c23 : x71_19 = true
                    · subst c23
                      have H1 : (if t160 = 1 then (if t162 = 1 then (if t159 = 0 then (some (t161 == 0)) else (some false)) else (some false)) else (some false)) = some r := by rw [if_pos rfl] at H; exact H
                      clear H
                      have H := H1
                      clear H1
                      by_cases c24 : t160 = 1
                      · rw [if_pos c24] at H
                        have c24b0 : (t160 == 1) = true := beq_iff_eq.mpr c24
                        have c24b1 : (t160 != 1) = false := bne_eq_false_iff_eq.mpr c24
                        clear c24
                        by_cases c25 : t162 = 1
                        · rw [if_pos c25] at H
                          have c25b0 : (t162 == 1) = true := beq_iff_eq.mpr c25
                          have c25b1 : (t162 != 1) = false := bne_eq_false_iff_eq.mpr c25
                          clear c25
                          by_cases c26 : t159 = 0
                          · rw [if_pos c26] at H
                            have c26b0 : (t159 == 0) = true := beq_iff_eq.mpr c26
                            have c26b1 : (t159 != 0) = false := bne_eq_false_iff_eq.mpr c26
                            clear c26
                            obtain rfl := Option.some.inj H
                            go_wp2
                            go_ret
                            exact ⟨by first | rfl | (simp [errW_none, errW_some] <;> rfl) | (simp [*, errW_none, errW_some] <;> rfl), by repeat (first | (with_reducible first | exact HB.out | apply below_alloc | apply pw_below_drewN | apply below_drew1) | exact HB.out)⟩
                          · rw [if_neg c26] at H
                            have c26b0 : (t159 == 0) = false := beq_eq_false_iff_ne.mpr c26
                            have c26b1 : (t159 != 0) = true := bne_iff_ne.mpr c26
                            obtain rfl := Option.some.inj H
                            go_wp2
                            go_ret
                            exact ⟨by first | rfl | (simp [errW_none, errW_some] <;> rfl) | (simp [*, errW_none, errW_some] <;> rfl), by repeat (first | (with_reducible first | exact HB.out | apply below_alloc | apply pw_below_drewN | apply below_drew1) | exact HB.out)⟩
                        · rw [if_neg c25] at H
                          have c25b0 : (t162 == 1) = false := beq_eq_false_iff_ne.mpr c25
                          have c25b1 : (t162 != 1) = true := bne_iff_ne.mpr c25
                          obtain rfl := Option.some.inj H
                          go_wp2
                          go_ret
                          exact ⟨by first | rfl | (simp [errW_none, errW_some] <;> rfl) | (simp [*, errW_none, errW_some] <;> rfl), by repeat (first | (with_reducible first | exact HB.out | apply below_alloc | apply pw_below_drewN | apply below_drew1) | exact HB.out)⟩
                      · rw [if_neg c24] at H
                        have c24b0 : (t160 == 1) = false := beq_eq_false_iff_ne.mpr c24
                        have c24b1 : (t160 != 1) = true := bne_iff_ne.mpr c24
                        obtain rfl := Option.some.inj H
                        go_wp2
                        go_ret
                        exact ⟨by first | rfl | (simp [errW_none, errW_some] <;> rfl) | (simp [*, errW_none, errW_some] <;> rfl), by repeat (first | (with_reducible first | exact HB.out | apply below_alloc | apply pw_below_drewN | apply below_drew1) | exact HB.out)⟩
                    · replace c23 := Bool.eq_false_iff.mpr c23
                      subst c23
                      have H1 : (if t160 = 0 then (if t162 = 0 then ((shuttleref10_Stream.f a0 a1).bind fun t166 => (if t159 = t166 then ((shuttleref10_Version.f kj19 a0 a1).bind fun t167 => (some (t161 == t167))) else (some false))) else (some false)) else (some false)) = some r := by rw [if_neg (show ¬ (false = true) by decide)] at H; exact H
                      clear H
                      have H := H1
                      clear H1
                      by_cases c27 : t160 = 0
                      · rw [if_pos c27] at H
                        have c27b0 : (t160 == 0) = true := beq_iff_eq.mpr c27
                        have c27b1 : (t160 != 0) = false := bne_eq_false_iff_eq.mpr c27
                        clear c27
                        by_cases c28 : t162 = 0
                        · rw [if_pos c28] at H
                          have c28b0 : (t162 == 0) = true := beq_iff_eq.mpr c28
                          have c28b1 : (t162 != 0) = false := bne_eq_false_iff_eq.mpr c28
                          clear c28
                          replace H := Option.bind_eq_some_iff.mp H
                          obtain ⟨t166, A290, H⟩ := H
                          replace H : (if t159 = t166 then ((shuttleref10_Version.f kj19 a0 a1).bind fun t167 => (some (t161 == t167))) else (some false)) = some r := H
                          have A29 := Aside0.mk A290
                          clear A290
                          by_cases c30 : t159 = t166
                          · rw [if_pos c30] at H
                            have c30b0 : (t159 == t166) = true := beq_iff_eq.mpr c30
                            have c30b1 : (t159 != t166) = false := bne_eq_false_iff_eq.mpr c30
                            clear c30
                            replace H := Option.bind_eq_some_iff.mp H
                            obtain ⟨t167, A310, H⟩ := H
                            replace H : (some (t161 == t167)) = some r := H
                            have A31 := Aside0.mk A310
                            clear A310
                            obtain rfl := Option.some.inj H
                            go_wp2_with (first | (go_at_call 18; (with_reducible refine (shuttleref10_Stream.calls a0 a1 t166 _ A29.out).mono ?_); rintro e w' ⟨rfl, ⟨nd, rfl⟩⟩) | (go_at_call 32; (with_reducible refine (shuttleref10_Version.calls kj19 a0 a1 t167 _ A31.out).mono ?_); rintro e w' ⟨rfl, ⟨nd, rfl⟩⟩))
                            go_ret
                            exact ⟨by first | rfl | (simp [errW_none, errW_some] <;> rfl) | (simp [*, errW_none, errW_some] <;> rfl), by repeat (first | (with_reducible first | exact HB.out | apply below_alloc | apply pw_below_drewN | apply below_drew1) | exact HB.out)⟩
                          · rw [if_neg c30] at H
                            have c30b0 : (t159 == t166) = false := beq_eq_false_iff_ne.mpr c30
                            have c30b1 : (t159 != t166) = true := bne_iff_ne.mpr c30
                            obtain rfl := Option.some.inj H
                            go_wp2_with (first | (go_at_call 18; (with_reducible refine (shuttleref10_Stream.calls a0 a1 t166 _ A29.out).mono ?_); rintro e w' ⟨rfl, ⟨nd, rfl⟩⟩))
                            go_ret
                            exact ⟨by first | rfl | (simp [errW_none, errW_some] <;> rfl) | (simp [*, errW_none, errW_some] <;> rfl), by repeat (first | (with_reducible first | exact HB.out | apply below_alloc | apply pw_below_drewN | apply below_drew1) | exact HB.out)⟩
                        · rw [if_neg c28] at H
                          have c28b0 : (t162 == 0) = false := beq_eq_false_iff_ne.mpr c28
                          have c28b1 : (t162 != 0) = true := bne_iff_ne.mpr c28
                          obtain rfl := Option.some.inj H
                          go_wp2
                          go_ret
                          exact ⟨by first | rfl | (simp [errW_none, errW_some] <;> rfl) | (simp [*, errW_none, errW_some] <;> rfl), by repeat (first | (with_reducible first | exact HB.out | apply below_alloc | apply pw_below_drewN | apply below_drew1) | exact HB.out)⟩
                      · rw [if_neg c27] at H
                        have c27b0 : (t160 == 0) = false := beq_eq_false_iff_ne.mpr c27
                        have c27b1 : (t160 != 0) = true := bne_iff_ne.mpr c27
                        obtain rfl := Option.some.inj H
                        go_wp2
                        go_ret
                        exact ⟨by first | rfl | (simp [errW_none, errW_some] <;> rfl) | (simp [*, errW_none, errW_some] <;> rfl), by repeat (first | (with_reducible first | exact HB.out | apply below_alloc | apply pw_below_drewN | apply below_drew1) | exact HB.out)⟩
  · replace c8 := Bool.eq_false_iff.mpr c8
    subst c8
    have H1 : (some false) = some r := by rw [if_neg (show ¬ (false = true) by decide)] at H; exact H
    clear H
    have H := H1
    clear H1
    obtain rfl := Option.some.inj H
    go_enter Try.func11, Try.ntmps11
    go_wp2_with (first | ((with_reducible refine gate_callee (f := 20) rfl ?_); refine goesL_ (some 18) rfl rfl Try.func20 (by kernel_rfl) rfl #[.int .i64 a0, .int .i64 a1] rfl (by (try simp only [List.map_toArray, List.map_cons, List.map_nil]); first | done | rfl | (simp only [List.length_drop, List.length_take]; rfl)) ?_; (with_reducible refine (pattern_Stream.calls a0 a1 t159 t160 _ A4.out).mono ?_); rintro e w' ⟨rfl, ⟨nd, rfl⟩⟩; refine ⟨_, rfl, ?_⟩) | ((with_reducible refine gate_callee (f := 19) rfl ?_); refine goesL_ (some 24) rfl rfl Try.func19 (by kernel_rfl) rfl #[.int .i64 a0, .int .i64 a1] rfl (by (try simp only [List.map_toArray, List.map_cons, List.map_nil]); first | done | rfl | (simp only [List.length_drop, List.length_take]; rfl)) ?_; (with_reducible refine (pattern_Version.calls a0 a1 t161 t162 _ A5.out).mono ?_); rintro e w' ⟨rfl, ⟨nd, rfl⟩⟩; refine ⟨_, rfl, ?_⟩) | ((with_reducible refine gate_callee (f := 31) rfl ?_); refine goesL_ (some 29) rfl rfl Try.func31 (by kernel_rfl) rfl #[.int .i64 a2] rfl (by (try simp only [List.map_toArray, List.map_cons, List.map_nil]); first | done | rfl | (simp only [List.length_drop, List.length_take]; rfl)) ?_; (with_reducible refine (pattern_Rate.calls a2 t163 t164 _ A6.out).mono ?_); rintro e w' ⟨rfl, ⟨nd, rfl⟩⟩; refine ⟨_, rfl, ?_⟩) | ((with_reducible refine gate_callee (f := 17) rfl ?_); refine goesL_ (some 32) rfl rfl Try.func17 (by kernel_rfl) rfl #[] rfl (by (try simp only [List.map_toArray, List.map_cons, List.map_nil]); first | done | rfl | (simp only [List.length_drop, List.length_take]; rfl)) ?_; (with_reducible refine (shuttlelaw10_stands.calls k  false _ A7.out).mono ?_); rintro e w32 ⟨rfl, hb⟩; refine ⟨_, rfl, ?_⟩; have n0_ := Aside0.mk (below_step (by repeat (first | (with_reducible first | exact HB.out | apply below_alloc | apply pw_below_drewN | apply below_drew1) | exact HB.out)) hb); clear HB; have HB := n0_; clear n0_; (try clear hb); (try clear hb2); (try clear hk); (try clear hi)))
    go_ret
    exact ⟨by first | rfl | (simp [errW_none, errW_some] <;> rfl) | (simp [*, errW_none, errW_some] <;> rfl), by repeat (first | (with_reducible first | exact HB.out | apply below_alloc | apply pw_below_drewN | apply below_drew1) | exact HB.out)⟩

/-- THE ONE PURE STATEMENT of shuttlelaw10_PatternTells: yours. -/
def shuttlelaw10_PatternTells.Pure : Prop := ∀ (a0 : Int) (a1 : Int) (a2 : Int), (Lit.int .i64 a0).wf = true → (Lit.int .i64 a1).wf = true → (Lit.int .i64 a2).wf = true → ∃ k, shuttlelaw10_PatternTells.f k a0 a1 a2 = some true
theorem shuttlelaw10_PatternTells.walk (P : shuttlelaw10_PatternTells.Pure) (a0 : Int) (a1 : Int) (a2 : Int) (w : World) (w0 : (Lit.int .i64 a0).wf = true) (w1 : (Lit.int .i64 a1).wf = true) (w2 : (Lit.int .i64 a2).wf = true) :
    Calls Try.prog 11 #[.int .i64 a0, .int .i64 a1, .int .i64 a2] w fun e w' => e = .returned (.bool true) ∧ Below w.heap.size w w' := by
  obtain ⟨k, h⟩ := P a0 a1 a2 w0 w1 w2
  refine (shuttlelaw10_PatternTells.calls k a0 a1 a2 true w h).mono ?_
  rintro e w' ⟨rfl, hd⟩
  exact ⟨rfl, hd⟩

end Go.Proofs.Ytkhpgjojbdgkfaa.X
