-- Made by xprint.py (an own driver round the kit's print.py), with contracts of this session's own. Lean checks it.
import Derived.Test.YtmjilfeadgancaaX0
import Derived.Test.YtmjilfeadgancaaX2
import Derived.Test.YtmjilfeadgancaaX12
namespace Go.Proofs.Ytmjilfeadgancaa.X
open Go.RowKit Go.Proofs.YtmjilfeadgancaaW.PrintWords Go.Proofs.YtmjilfeadgancaaW.PrintLast Go.Proofs.YtmjilfeadgancaaW.PrintMore
attribute [local go_sem] max2_int min2_int max_two min_two max_three min_three max_four min_four   -- for this text's walks alone
set_option linter.unusedVariables false
set_option linter.unusedSimpArgs false

/-! ### shuttlelaw08_SoftSums: function 4 -/
mutual
def shuttlelaw08_SoftSums.l0 : Nat → List Int → Int → Int → Bool → Int → Option (Bool)
  | 0, _, _, _, _, _ => none
  | k + 1, x0, x3, x4, x5, x6 => if x6 < (x0.length : Int) then (shuttlelaw08_SoftSums.j1 k x0 x3 x4 x5 x6 (decide (x6 < 60))) else (shuttlelaw08_SoftSums.j1 k x0 x3 x4 x5 x6 false)
def shuttlelaw08_SoftSums.j1 : Nat → List Int → Int → Int → Bool → Int → Bool → Option (Bool)
  | 0, _, _, _, _, _, _ => none
  | k + 1, x0, x3, x4, x5, x6, x15 => if x15 = true then (if 0 ≤ x6 then (if x6 < (x0.length : Int) then ((soft_Add.f x3 (Int.tmod (rd x0 x6) 9)).bind fun t139 => (if x5 = true then (if (wrap64 (x4 + (Int.tmod (rd x0 x6) 9))) ≥ (-31) then (if t139 < (-31) then (some false) else (if t139 > 31 then (some false) else (if (wrap64 (x4 + (Int.tmod (rd x0 x6) 9))) ≤ 31 then (if t139 = (wrap64 (x4 + (Int.tmod (rd x0 x6) 9))) then (shuttlelaw08_SoftSums.l0 k x0 t139 (wrap64 (x4 + (Int.tmod (rd x0 x6) 9))) (decide ((wrap64 (x4 + (Int.tmod (rd x0 x6) 9))) ≤ 31)) (wrap64 (x6 + 1))) else (some false)) else (shuttlelaw08_SoftSums.l0 k x0 t139 (wrap64 (x4 + (Int.tmod (rd x0 x6) 9))) (decide ((wrap64 (x4 + (Int.tmod (rd x0 x6) 9))) ≤ 31)) (wrap64 (x6 + 1)))))) else (if t139 < (-31) then (some false) else (if t139 > 31 then (some false) else (shuttlelaw08_SoftSums.l0 k x0 t139 (wrap64 (x4 + (Int.tmod (rd x0 x6) 9))) false (wrap64 (x6 + 1)))))) else (if t139 < (-31) then (some false) else (if t139 > 31 then (some false) else (shuttlelaw08_SoftSums.l0 k x0 t139 (wrap64 (x4 + (Int.tmod (rd x0 x6) 9))) false (wrap64 (x6 + 1))))))) else (none)) else (none)) else ((shuttlelaw08_sure.f k).bind fun t140 => (some t140))
end
def shuttlelaw08_SoftSums.f (k : Nat) (l0 : List Int) : Option (Bool) := shuttlelaw08_SoftSums.l0 k l0 0 0 true 0
theorem shuttlelaw08_SoftSums.mono_l : ∀ k, (∀ y0 y1 y2 y3 y4, LeO (shuttlelaw08_SoftSums.l0 k y0 y1 y2 y3 y4) (shuttlelaw08_SoftSums.l0 (k + 1) y0 y1 y2 y3 y4)) ∧ (∀ y0 y1 y2 y3 y4 y5, LeO (shuttlelaw08_SoftSums.j1 k y0 y1 y2 y3 y4 y5) (shuttlelaw08_SoftSums.j1 (k + 1) y0 y1 y2 y3 y4 y5))
  | 0 => ⟨fun _ _ _ _ _ r h => by simp [shuttlelaw08_SoftSums.l0] at h, fun _ _ _ _ _ _ r h => by simp [shuttlelaw08_SoftSums.j1] at h⟩
  | k + 1 => by
    obtain ⟨ih0, ih1⟩ := shuttlelaw08_SoftSums.mono_l k
    refine ⟨?_, ?_⟩
    · intro y0 y1 y2 y3 y4
      unfold shuttlelaw08_SoftSums.l0
      repeat' first
      | (with_reducible exact ih0 _ _ _ _ _)
      | (with_reducible exact ih1 _ _ _ _ _ _)
      | (with_reducible exact shuttlelaw08_sure.mono _)
      | (with_reducible exact LeO.refl _)
      | (with_reducible exact LeO.none _)
      | (with_reducible refine LeO.ite ?_ ?_)
      | (with_reducible refine LeO.bind ?_ (fun _ => ?_))
      | exact ih0 _ _ _ _ _
      | exact ih1 _ _ _ _ _ _
      | exact shuttlelaw08_sure.mono _
      | exact LeO.none _
      | refine LeO.ite ?_ ?_
      | refine LeO.bind ?_ (fun _ => ?_)
    · intro y0 y1 y2 y3 y4 y5
      unfold shuttlelaw08_SoftSums.j1
      repeat' first
      | (with_reducible exact ih0 _ _ _ _ _)
      | (with_reducible exact ih1 _ _ _ _ _ _)
      | (with_reducible exact shuttlelaw08_sure.mono _)
      | (with_reducible exact LeO.refl _)
      | (with_reducible exact LeO.none _)
      | (with_reducible refine LeO.ite ?_ ?_)
      | (with_reducible refine LeO.bind ?_ (fun _ => ?_))
      | exact ih0 _ _ _ _ _
      | exact ih1 _ _ _ _ _ _
      | exact shuttlelaw08_sure.mono _
      | exact LeO.none _
      | refine LeO.ite ?_ ?_
      | refine LeO.bind ?_ (fun _ => ?_)
theorem shuttlelaw08_SoftSums.mono : ∀ a0 k, LeO (shuttlelaw08_SoftSums.f k a0) (shuttlelaw08_SoftSums.f (k + 1) a0) := by
  intro a0 k
  obtain ⟨ih0, ih1⟩ := shuttlelaw08_SoftSums.mono_l k
  unfold shuttlelaw08_SoftSums.f
  repeat' first
      | (with_reducible exact ih0 _ _ _ _ _)
      | (with_reducible exact ih1 _ _ _ _ _ _)
      | (with_reducible exact shuttlelaw08_sure.mono _)
      | (with_reducible exact LeO.refl _)
      | (with_reducible exact LeO.none _)
      | (with_reducible refine LeO.ite ?_ ?_)
      | (with_reducible refine LeO.bind ?_ (fun _ => ?_))
      | exact ih0 _ _ _ _ _
      | exact ih1 _ _ _ _ _ _
      | exact shuttlelaw08_sure.mono _
      | exact LeO.none _
      | refine LeO.ite ?_ ?_
      | refine LeO.bind ?_ (fun _ => ?_)
set_option maxHeartbeats 8000000 in
set_option maxRecDepth 100000 in
theorem shuttlelaw08_SoftSums.calls (k : Nat) (A0 : Option Addr) (c0 : Nat) (l0 : List Int) (r : Bool) (w : World) (hr0 : Kd.C (Kd.int .i64) w A0 l0.length l0) (hc0 : l0.length ≤ c0) (h : shuttlelaw08_SoftSums.f k l0 = some r) :
    Calls Try.prog 4 #[.slice A0 l0.length c0] w fun e w' => e = .returned (.bool r) ∧ Below w.heap.size w w' := by
  have HR0 := Aside0.mk hr0
  have HC0 := Aside0.mk hc0
  clear hr0 hc0
  have HB := Aside0.mk (Below.refl w.heap.size w)
  have H : (shuttlelaw08_SoftSums.l0 k l0 0 0 true 0) = some r := h
  clear h
  have H' := Aside0.mk H
  clear H
  go_enter Try.func4, Try.ntmps4
  go_wp2
  go_loopg [3, 4, 5, 6] k (fun kq v3 v4 v5 v6 w' => ∃ (x3_1 : Int) (x4_1 : Int) (x5_1 : Bool) (x6_1 : Int), v3 = .int .i64 x3_1 ∧ v4 = .int .i64 x4_1 ∧ v5 = .bool x5_1 ∧ v6 = .int .i64 x6_1 ∧ Aside0 (shuttlelaw08_SoftSums.l0 kq l0 x3_1 x4_1 x5_1 x6_1 = some r) ∧ Aside0 (kq ≤ k) ∧ Aside0 (Below w.heap.size w w'))
  case atStart => exact ⟨(0), (0), (true), (0), (by first | rfl | (simp; done) | (simp [*]; done)), (by first | rfl | (simp; done) | (simp [*]; done)), (by first | rfl | (simp; done) | (simp [*]; done)), (by first | rfl | (simp; done) | (simp [*]; done)), H', ⟨Nat.le_refl _⟩, ⟨by repeat (first | (with_reducible first | exact HB.out | apply below_alloc | apply pw_below_drewN | apply below_drew1) | exact HB.out)⟩⟩
  case round =>
    clear H'
    obtain ⟨x3_1, x4_1, x5_1, x6_1, rfl, rfl, rfl, rfl, HA, HK1, HB⟩ := hrel
    cases gk with
    | zero => exact absurd HA.out (by simp [shuttlelaw08_SoftSums.l0])
    | succ k1 =>
      have H := HA.out
      clear HA
      simp only [shuttlelaw08_SoftSums.l0] at H
      have HC2 := Aside0.mk H
      clear H
      go_upto_region 3 with (fail)
      go_cut [15] (fun v15 wc => ∃ (kq : Nat) (x15_1 : Bool), v15 = .bool x15_1 ∧ Aside0 (shuttlelaw08_SoftSums.j1 kq l0 x3_1 x4_1 x5_1 x6_1 x15_1 = some r) ∧ Aside0 (kq ≤ k1) ∧ Aside0 (Below w.heap.size w wc))
      case first =>
        have H := HC2.out
        clear HC2
        by_cases c3 : x6_1 < (l0.length : Int)
        · rw [if_pos c3] at H
          have c3b0 : decide (x6_1 < (l0.length : Int)) = true := decide_eq_true c3
          clear c3
          (first | rw [c3b0] | (simp only [i64_w, i32_w]; rw [c3b0]) | skip)
          have H' := Aside0.mk H
          clear H
          go_wp2
          go_meet
          case rel => exact ⟨_, (decide (x6_1 < 60)), (by first | rfl | (simp; done) | (simp [*]; done)), H', ⟨by have := HK1.out; first | omega | exact Nat.le_refl _⟩, ⟨by repeat (first | (with_reducible first | exact HB.out | apply below_alloc | apply pw_below_drewN | apply below_drew1) | exact HB.out)⟩⟩
        · rw [if_neg c3] at H
          have c3b0 : decide (x6_1 < (l0.length : Int)) = false := decide_eq_false c3
          clear c3
          (first | rw [c3b0] | (simp only [i64_w, i32_w]; rw [c3b0]) | skip)
          have H' := Aside0.mk H
          clear H
          go_wp2
          go_meet
          case rel => exact ⟨_, (false), (by first | rfl | (simp; done) | (simp [*]; done)), H', ⟨by have := HK1.out; first | omega | exact Nat.le_refl _⟩, ⟨by repeat (first | (with_reducible first | exact HB.out | apply below_alloc | apply pw_below_drewN | apply below_drew1) | exact HB.out)⟩⟩
      case rest =>
        clear HC2
        try clear p2
        try clear c3
        try clear c3b0
        obtain ⟨kq, x15_1, rfl, HA, HJ1, HB⟩ := hcut
        cases kq with
        | zero => exact absurd HA.out (by simp [shuttlelaw08_SoftSums.j1])
        | succ kj1 =>
          have H := HA.out
          clear HA
          simp only [shuttlelaw08_SoftSums.j1] at H
          by_cases c4 : x15_1 = true
          · subst c4
            have H1 : (if 0 ≤ x6_1 then (if x6_1 < (l0.length : Int) then ((soft_Add.f x3_1 (Int.tmod (rd l0 x6_1) 9)).bind fun t139 => (if x5_1 = true then (if (wrap64 (x4_1 + (Int.tmod (rd l0 x6_1) 9))) ≥ (-31) then (if t139 < (-31) then (some false) else (if t139 > 31 then (some false) else (if (wrap64 (x4_1 + (Int.tmod (rd l0 x6_1) 9))) ≤ 31 then (if t139 = (wrap64 (x4_1 + (Int.tmod (rd l0 x6_1) 9))) then (shuttlelaw08_SoftSums.l0 kj1 l0 t139 (wrap64 (x4_1 + (Int.tmod (rd l0 x6_1) 9))) (decide ((wrap64 (x4_1 + (Int.tmod (rd l0 x6_1) 9))) ≤ 31)) (wrap64 (x6_1 + 1))) else (some false)) else (shuttlelaw08_SoftSums.l0 kj1 l0 t139 (wrap64 (x4_1 + (Int.tmod (rd l0 x6_1) 9))) (decide ((wrap64 (x4_1 + (Int.tmod (rd l0 x6_1) 9))) ≤ 31)) (wrap64 (x6_1 + 1)))))) else (if t139 < (-31) then (some false) else (if t139 > 31 then (some false) else (shuttlelaw08_SoftSums.l0 kj1 l0 t139 (wrap64 (x4_1 + (Int.tmod (rd l0 x6_1) 9))) false (wrap64 (x6_1 + 1)))))) else (if t139 < (-31) then (some false) else (if t139 > 31 then (some false) else (shuttlelaw08_SoftSums.l0 kj1 l0 t139 (wrap64 (x4_1 + (Int.tmod (rd l0 x6_1) 9))) false (wrap64 (x6_1 + 1))))))) else (none)) else (none)) = some r := by rw [if_pos rfl] at H; exact H
            clear H
            have H := H1
            clear H1
            by_cases c5 : 0 ≤ x6_1
            · rw [if_pos c5] at H
              have c5b0 : decide (0 ≤ x6_1) = true := decide_eq_true c5
              clear c5
              by_cases c6 : x6_1 < (l0.length : Int)
              · rw [if_pos c6] at H
                have c6b0 : decide (x6_1 < (l0.length : Int)) = true := decide_eq_true c6
                clear c6
                replace H := Option.bind_eq_some_iff.mp H
                obtain ⟨t139, A70, H⟩ := H
                replace H : (if x5_1 = true then (if (wrap64 (x4_1 + (Int.tmod (rd l0 x6_1) 9))) ≥ (-31) then (if t139 < (-31) then (some false) else (if t139 > 31 then (some false) else (if (wrap64 (x4_1 + (Int.tmod (rd l0 x6_1) 9))) ≤ 31 then (if t139 = (wrap64 (x4_1 + (Int.tmod (rd l0 x6_1) 9))) then (shuttlelaw08_SoftSums.l0 kj1 l0 t139 (wrap64 (x4_1 + (Int.tmod (rd l0 x6_1) 9))) (decide ((wrap64 (x4_1 + (Int.tmod (rd l0 x6_1) 9))) ≤ 31)) (wrap64 (x6_1 + 1))) else (some false)) else (shuttlelaw08_SoftSums.l0 kj1 l0 t139 (wrap64 (x4_1 + (Int.tmod (rd l0 x6_1) 9))) (decide ((wrap64 (x4_1 + (Int.tmod (rd l0 x6_1) 9))) ≤ 31)) (wrap64 (x6_1 + 1)))))) else (if t139 < (-31) then (some false) else (if t139 > 31 then (some false) else (shuttlelaw08_SoftSums.l0 kj1 l0 t139 (wrap64 (x4_1 + (Int.tmod (rd l0 x6_1) 9))) false (wrap64 (x6_1 + 1)))))) else (if t139 < (-31) then (some false) else (if t139 > 31 then (some false) else (shuttlelaw08_SoftSums.l0 kj1 l0 t139 (wrap64 (x4_1 + (Int.tmod (rd l0 x6_1) 9))) false (wrap64 (x6_1 + 1)))))) = some r := H
                have A7 := Aside0.mk A70
                clear A70
                by_cases c8 : x5_1 = true
                · subst c8
                  have H1 : (if (wrap64 (x4_1 + (Int.tmod (rd l0 x6_1) 9))) ≥ (-31) then (if t139 < (-31) then (some false) else (if t139 > 31 then (some false) else (if (wrap64 (x4_1 + (Int.tmod (rd l0 x6_1) 9))) ≤ 31 then (if t139 = (wrap64 (x4_1 + (Int.tmod (rd l0 x6_1) 9))) then (shuttlelaw08_SoftSums.l0 kj1 l0 t139 (wrap64 (x4_1 + (Int.tmod (rd l0 x6_1) 9))) (decide ((wrap64 (x4_1 + (Int.tmod (rd l0 x6_1) 9))) ≤ 31)) (wrap64 (x6_1 + 1))) else (some false)) else (shuttlelaw08_SoftSums.l0 kj1 l0 t139 (wrap64 (x4_1 + (Int.tmod (rd l0 x6_1) 9))) (decide ((wrap64 (x4_1 + (Int.tmod (rd l0 x6_1) 9))) ≤ 31)) (wrap64 (x6_1 + 1)))))) else (if t139 < (-31) then (some false) else (if t139 > 31 then (some false) else (shuttlelaw08_SoftSums.l0 kj1 l0 t139 (wrap64 (x4_1 + (Int.tmod (rd l0 x6_1) 9))) false (wrap64 (x6_1 + 1)))))) = some r := by rw [if_pos rfl] at H; exact H
                  clear H
                  have H := H1
                  clear H1
                  by_cases c9 : (wrap64 (x4_1 + (Int.tmod (rd l0 x6_1) 9))) ≥ (-31)
                  · rw [if_pos c9] at H
                    have c9b0 : decide ((-31) ≤ (wrap64 (x4_1 + (Int.tmod (rd l0 x6_1) 9)))) = true := decide_eq_true c9
                    clear c9
                    by_cases c10 : t139 < (-31)
                    · rw [if_pos c10] at H
                      have c10b0 : decide (t139 < (-31)) = true := decide_eq_true c10
                      clear c10
                      obtain rfl := Option.some.inj H
                      have p138 : 0 ≤ (x6_1 : Int) := of_decide_eq_true (by first | (with_reducible assumption) | assumption)
                      have q138 : x6_1 < (l0.length : Int) := of_decide_eq_true (by first | (with_reducible assumption) | assumption)
                      obtain ⟨ad138, e138, hx138_0⟩ := Kd.at_int HR0.out x6_1 p138 q138
                      cases e138
                      replace hx138_0 := (HB.out.cell (World.block_lt_of_cell? w _ hx138_0)).trans hx138_0
                      replace p138 := eq_true p138
                      replace q138 := eq_true q138
                      go_wp2_with (first | ((with_reducible refine gate_callee (f := 14) rfl ?_); refine goesL_ (some 25) rfl rfl Try.func14 (by kernel_rfl) rfl #[.int .i64 x3_1, .int .i64 (Int.tmod (rd l0 x6_1) 9)] rfl (by (try simp only [List.map_toArray, List.map_cons, List.map_nil]); first | done | rfl | (simp only [List.length_drop, List.length_take]; rfl)) ?_; (with_reducible refine (soft_Add.calls x3_1 (Int.tmod (rd l0 x6_1) 9) t139 _ A7.out).mono ?_); rintro e w' ⟨rfl, ⟨nd, rfl⟩⟩; refine ⟨_, rfl, ?_⟩))
                      go_ret
                      exact ⟨by first | rfl | (simp [errW_none, errW_some] <;> rfl) | (simp [*, errW_none, errW_some] <;> rfl), by repeat (first | (with_reducible first | exact HB.out | apply below_alloc | apply pw_below_drewN | apply below_drew1) | exact HB.out)⟩
                    · rw [if_neg c10] at H
                      have c10b0 : decide (t139 < (-31)) = false := decide_eq_false c10
                      clear c10
                      by_cases c11 : t139 > 31
                      · rw [if_pos c11] at H
                        have c11b0 : decide (31 < t139) = true := decide_eq_true c11
                        clear c11
                        obtain rfl := Option.some.inj H
                        have p138 : 0 ≤ (x6_1 : Int) := of_decide_eq_true (by first | (with_reducible assumption) | assumption)
                        have q138 : x6_1 < (l0.length : Int) := of_decide_eq_true (by first | (with_reducible assumption) | assumption)
                        obtain ⟨ad138, e138, hx138_0⟩ := Kd.at_int HR0.out x6_1 p138 q138
                        cases e138
                        replace hx138_0 := (HB.out.cell (World.block_lt_of_cell? w _ hx138_0)).trans hx138_0
                        replace p138 := eq_true p138
                        replace q138 := eq_true q138
                        go_wp2_with (first | ((with_reducible refine gate_callee (f := 14) rfl ?_); refine goesL_ (some 25) rfl rfl Try.func14 (by kernel_rfl) rfl #[.int .i64 x3_1, .int .i64 (Int.tmod (rd l0 x6_1) 9)] rfl (by (try simp only [List.map_toArray, List.map_cons, List.map_nil]); first | done | rfl | (simp only [List.length_drop, List.length_take]; rfl)) ?_; (with_reducible refine (soft_Add.calls x3_1 (Int.tmod (rd l0 x6_1) 9) t139 _ A7.out).mono ?_); rintro e w' ⟨rfl, ⟨nd, rfl⟩⟩; refine ⟨_, rfl, ?_⟩))
                        go_ret
                        exact ⟨by first | rfl | (simp [errW_none, errW_some] <;> rfl) | (simp [*, errW_none, errW_some] <;> rfl), by repeat (first | (with_reducible first | exact HB.out | apply below_alloc | apply pw_below_drewN | apply below_drew1) | exact HB.out)⟩
                      · rw [if_neg c11] at H
                        have c11b0 : decide (31 < t139) = false := decide_eq_false c11
                        clear c11
                        by_cases c12 : (wrap64 (x4_1 + (Int.tmod (rd l0 x6_1) 9))) ≤ 31
                        · rw [if_pos c12] at H
                          have c12b0 : decide ((wrap64 (x4_1 + (Int.tmod (rd l0 x6_1) 9))) ≤ 31) = true := decide_eq_true c12
                          clear c12
                          by_cases c13 : t139 = (wrap64 (x4_1 + (Int.tmod (rd l0 x6_1) 9)))
                          · rw [if_pos c13] at H
                            have c13b0 : (t139 == (wrap64 (x4_1 + (Int.tmod (rd l0 x6_1) 9)))) = true := beq_iff_eq.mpr c13
                            have c13b1 : (t139 != (wrap64 (x4_1 + (Int.tmod (rd l0 x6_1) 9)))) = false := bne_eq_false_iff_eq.mpr c13
                            clear c13
                            have H' := Aside0.mk H
                            clear H
                            have p138 : 0 ≤ (x6_1 : Int) := of_decide_eq_true (by first | (with_reducible assumption) | assumption)
                            have q138 : x6_1 < (l0.length : Int) := of_decide_eq_true (by first | (with_reducible assumption) | assumption)
                            obtain ⟨ad138, e138, hx138_0⟩ := Kd.at_int HR0.out x6_1 p138 q138
                            cases e138
                            replace hx138_0 := (HB.out.cell (World.block_lt_of_cell? w _ hx138_0)).trans hx138_0
                            replace p138 := eq_true p138
                            replace q138 := eq_true q138
                            go_wp2_with (first | ((with_reducible refine gate_callee (f := 14) rfl ?_); refine goesL_ (some 25) rfl rfl Try.func14 (by kernel_rfl) rfl #[.int .i64 x3_1, .int .i64 (Int.tmod (rd l0 x6_1) 9)] rfl (by (try simp only [List.map_toArray, List.map_cons, List.map_nil]); first | done | rfl | (simp only [List.length_drop, List.length_take]; rfl)) ?_; (with_reducible refine (soft_Add.calls x3_1 (Int.tmod (rd l0 x6_1) 9) t139 _ A7.out).mono ?_); rintro e w' ⟨rfl, ⟨nd, rfl⟩⟩; refine ⟨_, rfl, ?_⟩))
                            go_roundg kj1
                            case measure => have := HK1.out; have := HJ1.out; omega
                            case rel => exact ⟨(t139), (wrap64 (x4_1 + (Int.tmod (rd l0 x6_1) 9))), (decide ((wrap64 (x4_1 + (Int.tmod (rd l0 x6_1) 9))) ≤ 31)), (wrap64 (x6_1 + 1)), (by first | rfl | (simp; done) | (simp [*]; done)), (by first | rfl | (simp; done) | (simp [*]; done)), (by first | rfl | (simp; done) | (simp [*]; done)), (by first | rfl | (simp; done) | (simp [*]; done)), H', ⟨by have := HK1.out; have := HJ1.out; omega⟩, ⟨by repeat (first | (with_reducible first | exact HB.out | apply below_alloc | apply pw_below_drewN | apply below_drew1) | exact HB.out)⟩⟩
                          · rw [if_neg c13] at H
                            have c13b0 : (t139 == (wrap64 (x4_1 + (Int.tmod (rd l0 x6_1) 9)))) = false := beq_eq_false_iff_ne.mpr c13
                            have c13b1 : (t139 != (wrap64 (x4_1 + (Int.tmod (rd l0 x6_1) 9)))) = true := bne_iff_ne.mpr c13
                            obtain rfl := Option.some.inj H
                            have p138 : 0 ≤ (x6_1 : Int) := of_decide_eq_true (by first | (with_reducible assumption) | assumption)
                            have q138 : x6_1 < (l0.length : Int) := of_decide_eq_true (by first | (with_reducible assumption) | assumption)
                            obtain ⟨ad138, e138, hx138_0⟩ := Kd.at_int HR0.out x6_1 p138 q138
                            cases e138
                            replace hx138_0 := (HB.out.cell (World.block_lt_of_cell? w _ hx138_0)).trans hx138_0
                            replace p138 := eq_true p138
                            replace q138 := eq_true q138
                            go_wp2_with (first | ((with_reducible refine gate_callee (f := 14) rfl ?_); refine goesL_ (some 25) rfl rfl Try.func14 (by kernel_rfl) rfl #[.int .i64 x3_1, .int .i64 (Int.tmod (rd l0 x6_1) 9)] rfl (by (try simp only [List.map_toArray, List.map_cons, List.map_nil]); first | done | rfl | (simp only [List.length_drop, List.length_take]; rfl)) ?_; (with_reducible refine (soft_Add.calls x3_1 (Int.tmod (rd l0 x6_1) 9) t139 _ A7.out).mono ?_); rintro e w' ⟨rfl, ⟨nd, rfl⟩⟩; refine ⟨_, rfl, ?_⟩))
                            go_ret
                            exact ⟨by first | rfl | (simp [errW_none, errW_some] <;> rfl) | (simp [*, errW_none, errW_some] <;> rfl), by repeat (first | (with_reducible first | exact HB.out | apply below_alloc | apply pw_below_drewN | apply below_drew1) | exact HB.out)⟩
                        · rw [if_neg c12] at H
                          have c12b0 : decide ((wrap64 (x4_1 + (Int.tmod (rd l0 x6_1) 9))) ≤ 31) = false := decide_eq_false c12
                          clear c12
                          have H' := Aside0.mk H
                          clear H
                          have p138 : 0 ≤ (x6_1 : Int) := of_decide_eq_true (by first | (with_reducible assumption) | assumption)
                          have q138 : x6_1 < (l0.length : Int) := of_decide_eq_true (by first | (with_reducible assumption) | assumption)
                          obtain ⟨ad138, e138, hx138_0⟩ := Kd.at_int HR0.out x6_1 p138 q138
                          cases e138
                          replace hx138_0 := (HB.out.cell (World.block_lt_of_cell? w _ hx138_0)).trans hx138_0
                          replace p138 := eq_true p138
                          replace q138 := eq_true q138
                          go_wp2_with (first | ((with_reducible refine gate_callee (f := 14) rfl ?_); refine goesL_ (some 25) rfl rfl Try.func14 (by kernel_rfl) rfl #[.int .i64 x3_1, .int .i64 (Int.tmod (rd l0 x6_1) 9)] rfl (by (try simp only [List.map_toArray, List.map_cons, List.map_nil]); first | done | rfl | (simp only [List.length_drop, List.length_take]; rfl)) ?_; (with_reducible refine (soft_Add.calls x3_1 (Int.tmod (rd l0 x6_1) 9) t139 _ A7.out).mono ?_); rintro e w' ⟨rfl, ⟨nd, rfl⟩⟩; refine ⟨_, rfl, ?_⟩))
                          go_roundg kj1
                          case measure => have := HK1.out; have := HJ1.out; omega
                          case rel => exact ⟨(t139), (wrap64 (x4_1 + (Int.tmod (rd l0 x6_1) 9))), (decide ((wrap64 (x4_1 + (Int.tmod (rd l0 x6_1) 9))) ≤ 31)), (wrap64 (x6_1 + 1)), (by first | rfl | (simp; done) | (simp [*]; done)), (by first | rfl | (simp; done) | (simp [*]; done)), (by first | rfl | (simp; done) | (simp [*]; done)), (by first | rfl | (simp; done) | (simp [*]; done)), H', ⟨by have := HK1.out; have := HJ1.out; omega⟩, ⟨by repeat (first | (with_reducible first | exact HB.out | apply below_alloc | apply pw_below_drewN | apply below_drew1) | exact HB.out)⟩⟩
                  · rw [if_neg c9] at H
                    have c9b0 : decide ((-31) ≤ (wrap64 (x4_1 + (Int.tmod (rd l0 x6_1) 9)))) = false := decide_eq_false c9
                    clear c9
                    by_cases c14 : t139 < (-31)
                    · rw [if_pos c14] at H
                      have c14b0 : decide (t139 < (-31)) = true := decide_eq_true c14
                      clear c14
                      obtain rfl := Option.some.inj H
                      have p138 : 0 ≤ (x6_1 : Int) := of_decide_eq_true (by first | (with_reducible assumption) | assumption)
                      have q138 : x6_1 < (l0.length : Int) := of_decide_eq_true (by first | (with_reducible assumption) | assumption)
                      obtain ⟨ad138, e138, hx138_0⟩ := Kd.at_int HR0.out x6_1 p138 q138
                      cases e138
                      replace hx138_0 := (HB.out.cell (World.block_lt_of_cell? w _ hx138_0)).trans hx138_0
                      replace p138 := eq_true p138
                      replace q138 := eq_true q138
                      go_wp2_with (first | ((with_reducible refine gate_callee (f := 14) rfl ?_); refine goesL_ (some 25) rfl rfl Try.func14 (by kernel_rfl) rfl #[.int .i64 x3_1, .int .i64 (Int.tmod (rd l0 x6_1) 9)] rfl (by (try simp only [List.map_toArray, List.map_cons, List.map_nil]); first | done | rfl | (simp only [List.length_drop, List.length_take]; rfl)) ?_; (with_reducible refine (soft_Add.calls x3_1 (Int.tmod (rd l0 x6_1) 9) t139 _ A7.out).mono ?_); rintro e w' ⟨rfl, ⟨nd, rfl⟩⟩; refine ⟨_, rfl, ?_⟩))
                      go_ret
                      exact ⟨by first | rfl | (simp [errW_none, errW_some] <;> rfl) | (simp [*, errW_none, errW_some] <;> rfl), by repeat (first | (with_reducible first | exact HB.out | apply below_alloc | apply pw_below_drewN | apply below_drew1) | exact HB.out)⟩
                    · rw [if_neg c14] at H
                      have c14b0 : decide (t139 < (-31)) = false := decide_eq_false c14
                      clear c14
                      by_cases c15 : t139 > 31
                      · rw [if_pos c15] at H
                        have c15b0 : decide (31 < t139) = true := decide_eq_true c15
                        clear c15
                        obtain rfl := Option.some.inj H
                        have p138 : 0 ≤ (x6_1 : Int) := of_decide_eq_true (by first | (with_reducible assumption) | assumption)
                        have q138 : x6_1 < (l0.length : Int) := of_decide_eq_true (by first | (with_reducible assumption) | assumption)
                        obtain ⟨ad138, e138, hx138_0⟩ := Kd.at_int HR0.out x6_1 p138 q138
                        cases e138
                        replace hx138_0 := (HB.out.cell (World.block_lt_of_cell? w _ hx138_0)).trans hx138_0
                        replace p138 := eq_true p138
                        replace q138 := eq_true q138
                        go_wp2_with (first | ((with_reducible refine gate_callee (f := 14) rfl ?_); refine goesL_ (some 25) rfl rfl Try.func14 (by kernel_rfl) rfl #[.int .i64 x3_1, .int .i64 (Int.tmod (rd l0 x6_1) 9)] rfl (by (try simp only [List.map_toArray, List.map_cons, List.map_nil]); first | done | rfl | (simp only [List.length_drop, List.length_take]; rfl)) ?_; (with_reducible refine (soft_Add.calls x3_1 (Int.tmod (rd l0 x6_1) 9) t139 _ A7.out).mono ?_); rintro e w' ⟨rfl, ⟨nd, rfl⟩⟩; refine ⟨_, rfl, ?_⟩))
                        go_ret
                        exact ⟨by first | rfl | (simp [errW_none, errW_some] <;> rfl) | (simp [*, errW_none, errW_some] <;> rfl), by repeat (first | (with_reducible first | exact HB.out | apply below_alloc | apply pw_below_drewN | apply below_drew1) | exact HB.out)⟩
                      · rw [if_neg c15] at H
                        have c15b0 : decide (31 < t139) = false := decide_eq_false c15
                        clear c15
                        have H' := Aside0.mk H
                        clear H
                        have p138 : 0 ≤ (x6_1 : Int) := of_decide_eq_true (by first | (with_reducible assumption) | assumption)
                        have q138 : x6_1 < (l0.length : Int) := of_decide_eq_true (by first | (with_reducible assumption) | assumption)
                        obtain ⟨ad138, e138, hx138_0⟩ := Kd.at_int HR0.out x6_1 p138 q138
                        cases e138
                        replace hx138_0 := (HB.out.cell (World.block_lt_of_cell? w _ hx138_0)).trans hx138_0
                        replace p138 := eq_true p138
                        replace q138 := eq_true q138
                        go_wp2_with (first | ((with_reducible refine gate_callee (f := 14) rfl ?_); refine goesL_ (some 25) rfl rfl Try.func14 (by kernel_rfl) rfl #[.int .i64 x3_1, .int .i64 (Int.tmod (rd l0 x6_1) 9)] rfl (by (try simp only [List.map_toArray, List.map_cons, List.map_nil]); first | done | rfl | (simp only [List.length_drop, List.length_take]; rfl)) ?_; (with_reducible refine (soft_Add.calls x3_1 (Int.tmod (rd l0 x6_1) 9) t139 _ A7.out).mono ?_); rintro e w' ⟨rfl, ⟨nd, rfl⟩⟩; refine ⟨_, rfl, ?_⟩))
                        go_roundg kj1
                        case measure => have := HK1.out; have := HJ1.out; omega
                        case rel => exact ⟨(t139), (wrap64 (x4_1 + (Int.tmod (rd l0 x6_1) 9))), (false), (wrap64 (x6_1 + 1)), (by first | rfl | (simp; done) | (simp [*]; done)), (by first | rfl | (simp; done) | (simp [*]; done)), (by first | rfl | (simp; done) | (simp [*]; done)), (by first | rfl | (simp; done) | (simp [*]; done)), H', ⟨by have := HK1.out; have := HJ1.out; omega⟩, ⟨by repeat (first | (with_reducible first | exact HB.out | apply below_alloc | apply pw_below_drewN | apply below_drew1) | exact HB.out)⟩⟩
                · replace c8 := Bool.eq_false_iff.mpr c8
                  subst c8
                  have H1 : (if t139 < (-31) then (some false) else (if t139 > 31 then (some false) else (shuttlelaw08_SoftSums.l0 kj1 l0 t139 (wrap64 (x4_1 + (Int.tmod (rd l0 x6_1) 9))) false (wrap64 (x6_1 + 1))))) = some r := by rw [if_neg (show ¬ (false = true) by decide)] at H; exact H
                  clear H
                  have H := H1
                  clear H1
                  by_cases c16 : t139 < (-31)
                  · rw [if_pos c16] at H
                    have c16b0 : decide (t139 < (-31)) = true := decide_eq_true c16
                    clear c16
                    obtain rfl := Option.some.inj H
                    have p138 : 0 ≤ (x6_1 : Int) := of_decide_eq_true (by first | (with_reducible assumption) | assumption)
                    have q138 : x6_1 < (l0.length : Int) := of_decide_eq_true (by first | (with_reducible assumption) | assumption)
                    obtain ⟨ad138, e138, hx138_0⟩ := Kd.at_int HR0.out x6_1 p138 q138
                    cases e138
                    replace hx138_0 := (HB.out.cell (World.block_lt_of_cell? w _ hx138_0)).trans hx138_0
                    replace p138 := eq_true p138
                    replace q138 := eq_true q138
                    go_wp2_with (first | ((with_reducible refine gate_callee (f := 14) rfl ?_); refine goesL_ (some 25) rfl rfl Try.func14 (by kernel_rfl) rfl #[.int .i64 x3_1, .int .i64 (Int.tmod (rd l0 x6_1) 9)] rfl (by (try simp only [List.map_toArray, List.map_cons, List.map_nil]); first | done | rfl | (simp only [List.length_drop, List.length_take]; rfl)) ?_; (with_reducible refine (soft_Add.calls x3_1 (Int.tmod (rd l0 x6_1) 9) t139 _ A7.out).mono ?_); rintro e w' ⟨rfl, ⟨nd, rfl⟩⟩; refine ⟨_, rfl, ?_⟩))
                    go_ret
                    exact ⟨by first | rfl | (simp [errW_none, errW_some] <;> rfl) | (simp [*, errW_none, errW_some] <;> rfl), by repeat (first | (with_reducible first | exact HB.out | apply below_alloc | apply pw_below_drewN | apply below_drew1) | exact HB.out)⟩
                  · rw [if_neg c16] at H
                    have c16b0 : decide (t139 < (-31)) = false := decide_eq_false c16
                    clear c16
                    by_cases c17 : t139 > 31
                    · rw [if_pos c17] at H
                      have c17b0 : decide (31 < t139) = true := decide_eq_true c17
                      clear c17
                      obtain rfl := Option.some.inj H
                      have p138 : 0 ≤ (x6_1 : Int) := of_decide_eq_true (by first | (with_reducible assumption) | assumption)
                      have q138 : x6_1 < (l0.length : Int) := of_decide_eq_true (by first | (with_reducible assumption) | assumption)
                      obtain ⟨ad138, e138, hx138_0⟩ := Kd.at_int HR0.out x6_1 p138 q138
                      cases e138
                      replace hx138_0 := (HB.out.cell (World.block_lt_of_cell? w _ hx138_0)).trans hx138_0
                      replace p138 := eq_true p138
                      replace q138 := eq_true q138
                      go_wp2_with (first | ((with_reducible refine gate_callee (f := 14) rfl ?_); refine goesL_ (some 25) rfl rfl Try.func14 (by kernel_rfl) rfl #[.int .i64 x3_1, .int .i64 (Int.tmod (rd l0 x6_1) 9)] rfl (by (try simp only [List.map_toArray, List.map_cons, List.map_nil]); first | done | rfl | (simp only [List.length_drop, List.length_take]; rfl)) ?_; (with_reducible refine (soft_Add.calls x3_1 (Int.tmod (rd l0 x6_1) 9) t139 _ A7.out).mono ?_); rintro e w' ⟨rfl, ⟨nd, rfl⟩⟩; refine ⟨_, rfl, ?_⟩))
                      go_ret
                      exact ⟨by first | rfl | (simp [errW_none, errW_some] <;> rfl) | (simp [*, errW_none, errW_some] <;> rfl), by repeat (first | (with_reducible first | exact HB.out | apply below_alloc | apply pw_below_drewN | apply below_drew1) | exact HB.out)⟩
                    · rw [if_neg c17] at H
                      have c17b0 : decide (31 < t139) = false := decide_eq_false c17
                      clear c17
                      have H' := Aside0.mk H
                      clear H
                      have p138 : 0 ≤ (x6_1 : Int) := of_decide_eq_true (by first | (with_reducible assumption) | assumption)
                      have q138 : x6_1 < (l0.length : Int) := of_decide_eq_true (by first | (with_reducible assumption) | assumption)
                      obtain ⟨ad138, e138, hx138_0⟩ := Kd.at_int HR0.out x6_1 p138 q138
                      cases e138
                      replace hx138_0 := (HB.out.cell (World.block_lt_of_cell? w _ hx138_0)).trans hx138_0
                      replace p138 := eq_true p138
                      replace q138 := eq_true q138
                      go_wp2_with (first | ((with_reducible refine gate_callee (f := 14) rfl ?_); refine goesL_ (some 25) rfl rfl Try.func14 (by kernel_rfl) rfl #[.int .i64 x3_1, .int .i64 (Int.tmod (rd l0 x6_1) 9)] rfl (by (try simp only [List.map_toArray, List.map_cons, List.map_nil]); first | done | rfl | (simp only [List.length_drop, List.length_take]; rfl)) ?_; (with_reducible refine (soft_Add.calls x3_1 (Int.tmod (rd l0 x6_1) 9) t139 _ A7.out).mono ?_); rintro e w' ⟨rfl, ⟨nd, rfl⟩⟩; refine ⟨_, rfl, ?_⟩))
                      go_roundg kj1
                      case measure => have := HK1.out; have := HJ1.out; omega
                      case rel => exact ⟨(t139), (wrap64 (x4_1 + (Int.tmod (rd l0 x6_1) 9))), (false), (wrap64 (x6_1 + 1)), (by first | rfl | (simp; done) | (simp [*]; done)), (by first | rfl | (simp; done) | (simp [*]; done)), (by first | rfl | (simp; done) | (simp [*]; done)), (by first | rfl | (simp; done) | (simp [*]; done)), H', ⟨by have := HK1.out; have := HJ1.out; omega⟩, ⟨by repeat (first | (with_reducible first | exact HB.out | apply below_alloc | apply pw_below_drewN | apply below_drew1) | exact HB.out)⟩⟩
              · rw [if_neg c6] at H
                exact absurd H (by simp)
            · rw [if_neg c5] at H
              exact absurd H (by simp)
          · replace c4 := Bool.eq_false_iff.mpr c4
            subst c4
            have H1 : ((shuttlelaw08_sure.f kj1).bind fun t140 => (some t140)) = some r := by rw [if_neg (show ¬ (false = true) by decide)] at H; exact H
            clear H
            have H := H1
            clear H1
            replace H := Option.bind_eq_some_iff.mp H
            obtain ⟨t140, A180, H⟩ := H
            replace H : (some t140) = some r := H
            have A18 := Aside0.mk A180
            clear A180
            obtain rfl := Option.some.inj H
            go_wp2_with (first | ((with_reducible refine gate_callee (f := 11) rfl ?_); refine goesL_ (some 52) rfl rfl Try.func11 (by kernel_rfl) rfl #[] rfl (by (try simp only [List.map_toArray, List.map_cons, List.map_nil]); first | done | rfl | (simp only [List.length_drop, List.length_take]; rfl)) ?_; (with_reducible refine (shuttlelaw08_sure.calls kj1  t140 _ A18.out).mono ?_); rintro e w19 ⟨rfl, hb⟩; refine ⟨_, rfl, ?_⟩; have n0_ := Aside0.mk (below_step (by repeat (first | (with_reducible first | exact HB.out | apply below_alloc | apply pw_below_drewN | apply below_drew1) | exact HB.out)) hb); clear HB; have HB := n0_; clear n0_; (try clear hb); (try clear hb2); (try clear hk); (try clear hi)))
            go_ret
            exact ⟨by first | rfl | (simp [errW_none, errW_some] <;> rfl) | (simp [*, errW_none, errW_some] <;> rfl), by repeat (first | (with_reducible first | exact HB.out | apply below_alloc | apply pw_below_drewN | apply below_drew1) | exact HB.out)⟩

/-- THE ONE PURE STATEMENT of shuttlelaw08_SoftSums: yours. -/
def shuttlelaw08_SoftSums.Pure : Prop := ∀ (l0 : List Int), l0.length ≤ maxLen → l0.length * 8 ≤ 140737488351232 → (∀ x ∈ l0, (Lit.int .i64 x).wf = true) → ∃ k, shuttlelaw08_SoftSums.f k l0 = some true
theorem shuttlelaw08_SoftSums.walk (P : shuttlelaw08_SoftSums.Pure) (a0 : Option Addr) (len0 cap0 : Nat) (z0 : List Int) (w : World) (w0 : (a0 = none ∧ len0 = 0 ∧ cap0 = 0 ∧ z0 = []) ∨ ∃ x, a0 = some x ∧ len0 ≤ cap0 ∧ cap0 ≤ maxLen ∧ z0.length = cap0 ∧ (∀ i, i < z0.length → w.cell? (x.add i) = some (.int .i64 (z0.getD i 0))) ∧ ∀ n ∈ z0, (Lit.int .i64 n).wf = true) (y0 : len0 * 8 ≤ 140737488351232) :
    Calls Try.prog 4 #[.slice a0 len0 cap0] w fun e w' => e = .returned (.bool true) ∧ Below w.heap.size w w' := by
  obtain ⟨l0, rfl, hr0, hm0, hw0, hc0⟩ := ReadsInt.ofRowC w0
  obtain ⟨k, h⟩ := P l0 hm0 y0 hw0
  refine (shuttlelaw08_SoftSums.calls k _ _ l0 true w (Kd.C_of_reads (d := (0 : Int)) (h1 := fun _ => rfl) hr0) hc0 h).mono ?_
  rintro e w' ⟨rfl, hd⟩
  exact ⟨rfl, hd⟩

end Go.Proofs.Ytmjilfeadgancaa.X
