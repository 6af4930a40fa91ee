-- Made by xprint.py (an own driver round the kit's print.py), with contracts of this session's own. Lean checks it.
import Derived.Test.YtkhpgjojbdgkfaaX0
import Derived.Test.YtkhpgjojbdgkfaaX7
import Derived.Test.YtkhpgjojbdgkfaaX8
import Derived.Test.YtkhpgjojbdgkfaaX9
namespace Go.Proofs.Ytkhpgjojbdgkfaa.X
open Go.RowKit Go.Proofs.YtkhpgjojbdgkfaaW.PrintWords Go.Proofs.YtkhpgjojbdgkfaaW.PrintLast Go.Proofs.YtkhpgjojbdgkfaaW.PrintMore
attribute [local go_sem] max2_int min2_int max_two min_two max_three min_three max_four min_four   -- for this text's walks alone
set_option linter.unusedVariables false
set_option linter.unusedSimpArgs false

/-! ### shuttlelaw10_PatternPlaces: function 5 -/
mutual
def shuttlelaw10_PatternPlaces.j0 : Nat → Int → Int → List Int → Int → Bool → Option (Bool)
  | 0, _, _, _, _, _ => none
  | k + 1, x0, x1, x5, x6, x34 => if x34 = true then (if x6 = 1 then (some ((x5.length : Int) == 0)) else (some false)) else (if x6 = 0 then (shuttlelaw10_PatternPlaces.j1 k x0 x1 x5 ((x5.length : Int) != x1)) else (shuttlelaw10_PatternPlaces.j1 k x0 x1 x5 true))
def shuttlelaw10_PatternPlaces.j1 : Nat → Int → Int → List Int → Bool → Option (Bool)
  | 0, _, _, _, _ => none
  | k + 1, x0, x1, x5, x49 => if x49 = true then (some false) else (if 0 ≤ (wrap64 (4 * x1)) then (if (wrap64 (4 * x1) : Int).toNat ≤ 35184372088832 then (shuttlelaw10_PatternPlaces.l0 k x0 x1 x5 (List.replicate (wrap64 (4 * x1) : Int).toNat 0) 0) else (none)) else (none))
def shuttlelaw10_PatternPlaces.l0 : Nat → Int → Int → List Int → List Int → Int → Option (Bool)
  | 0, _, _, _, _, _ => none
  | k + 1, x0, x1, x5, x7, x8 => if x8 < 4 then ((pattern_Places.f k x8 x1).bind fun bt140 => (if bt140.2 = 0 then (shuttlelaw10_PatternPlaces.j3 k x0 x1 x5 x7 x8 bt140.1 ((bt140.1.length : Int) != x1)) else (shuttlelaw10_PatternPlaces.j3 k x0 x1 x5 x7 x8 bt140.1 true))) else (shuttlelaw10_PatternPlaces.l2 k x7 0)
def shuttlelaw10_PatternPlaces.j3 : Nat → Int → Int → List Int → List Int → Int → List Int → Bool → Option (Bool)
  | 0, _, _, _, _, _, _, _ => none
  | k + 1, x0, x1, x5, x7, x8, x9, x70 => if x70 = true then (some false) else (shuttlelaw10_PatternPlaces.l1 k x0 x1 x5 x7 x8 x9 0)
def shuttlelaw10_PatternPlaces.l1 : Nat → Int → Int → List Int → List Int → Int → List Int → Int → Option (Bool)
  | 0, _, _, _, _, _, _, _ => none
  | k + 1, x0, x1, x5, x7, x8, x9, x11 => if x11 < x1 then (if 0 ≤ x11 then (if x11 < (x9.length : Int) then ((shuttleref10_Stream.f x8 x11).bind fun t145 => (if (rd x9 x11) = (wrap64 ((wrap64 (4 * x11)) + t145)) then (if x8 = x0 then (if x11 < (x5.length : Int) then (if (rd x9 x11) = (rd x5 x11) then (if 0 ≤ (rd x9 x11) then (if (rd x9 x11) < (x7.length : Int) then (shuttlelaw10_PatternPlaces.l1 k x0 x1 x5 (x7.set ((rd x9 x11) : Int).toNat (wrap64 ((rd x7 (rd x9 x11)) + 1))) x8 x9 (wrap64 (x11 + 1))) else (none)) else (none)) else (some false)) else (none)) else (if 0 ≤ (rd x9 x11) then (if (rd x9 x11) < (x7.length : Int) then (shuttlelaw10_PatternPlaces.l1 k x0 x1 x5 (x7.set ((rd x9 x11) : Int).toNat (wrap64 ((rd x7 (rd x9 x11)) + 1))) x8 x9 (wrap64 (x11 + 1))) else (none)) else (none))) else (some false))) else (none)) else (none)) else (shuttlelaw10_PatternPlaces.l0 k x0 x1 x5 x7 (wrap64 (x8 + 1)))
def shuttlelaw10_PatternPlaces.l2 : Nat → List Int → Int → Option (Bool)
  | 0, _, _ => none
  | k + 1, x7, x12 => if x12 < (x7.length : Int) then (if 0 ≤ x12 then (if (rd x7 x12) = 1 then (shuttlelaw10_PatternPlaces.l2 k x7 (wrap64 (x12 + 1))) else (some false)) else (none)) else (some true)
end
def shuttlelaw10_PatternPlaces.f (k : Nat) (a0 : Int) (a1 : Int) : Option (Bool) := (pattern_Places.f k a0 a1).bind fun bt132 => ((shuttlelaw10_stands.f k).bind fun t136 => (if t136 = true then (if a0 < 0 then (shuttlelaw10_PatternPlaces.j0 k a0 a1 bt132.1 bt132.2 true) else (if a0 > 3 then (shuttlelaw10_PatternPlaces.j0 k a0 a1 bt132.1 bt132.2 true) else (if a1 < 0 then (shuttlelaw10_PatternPlaces.j0 k a0 a1 bt132.1 bt132.2 true) else (shuttlelaw10_PatternPlaces.j0 k a0 a1 bt132.1 bt132.2 (decide (a1 > 16384)))))) else (some false)))
theorem shuttlelaw10_PatternPlaces.mono_l : ∀ k, (∀ y0 y1 y2 y3 y4, LeO (shuttlelaw10_PatternPlaces.j0 k y0 y1 y2 y3 y4) (shuttlelaw10_PatternPlaces.j0 (k + 1) y0 y1 y2 y3 y4)) ∧ (∀ y0 y1 y2 y3, LeO (shuttlelaw10_PatternPlaces.j1 k y0 y1 y2 y3) (shuttlelaw10_PatternPlaces.j1 (k + 1) y0 y1 y2 y3)) ∧ (∀ y0 y1 y2 y3 y4, LeO (shuttlelaw10_PatternPlaces.l0 k y0 y1 y2 y3 y4) (shuttlelaw10_PatternPlaces.l0 (k + 1) y0 y1 y2 y3 y4)) ∧ (∀ y0 y1 y2 y3 y4 y5 y6, LeO (shuttlelaw10_PatternPlaces.j3 k y0 y1 y2 y3 y4 y5 y6) (shuttlelaw10_PatternPlaces.j3 (k + 1) y0 y1 y2 y3 y4 y5 y6)) ∧ (∀ y0 y1 y2 y3 y4 y5 y6, LeO (shuttlelaw10_PatternPlaces.l1 k y0 y1 y2 y3 y4 y5 y6) (shuttlelaw10_PatternPlaces.l1 (k + 1) y0 y1 y2 y3 y4 y5 y6)) ∧ (∀ y0 y1, LeO (shuttlelaw10_PatternPlaces.l2 k y0 y1) (shuttlelaw10_PatternPlaces.l2 (k + 1) y0 y1))
  | 0 => ⟨fun _ _ _ _ _ r h => by simp [shuttlelaw10_PatternPlaces.j0] at h, fun _ _ _ _ r h => by simp [shuttlelaw10_PatternPlaces.j1] at h, fun _ _ _ _ _ r h => by simp [shuttlelaw10_PatternPlaces.l0] at h, fun _ _ _ _ _ _ _ r h => by simp [shuttlelaw10_PatternPlaces.j3] at h, fun _ _ _ _ _ _ _ r h => by simp [shuttlelaw10_PatternPlaces.l1] at h, fun _ _ r h => by simp [shuttlelaw10_PatternPlaces.l2] at h⟩
  | k + 1 => by
    obtain ⟨ih0, ih1, ih2, ih3, ih4, ih5⟩ := shuttlelaw10_PatternPlaces.mono_l k
    refine ⟨?_, ?_, ?_, ?_, ?_, ?_⟩
    · intro y0 y1 y2 y3 y4
      unfold shuttlelaw10_PatternPlaces.j0
      repeat' first
      | (with_reducible exact ih0 _ _ _ _ _)
      | (with_reducible exact ih1 _ _ _ _)
      | (with_reducible exact ih2 _ _ _ _ _)
      | (with_reducible exact ih3 _ _ _ _ _ _ _)
      | (with_reducible exact ih4 _ _ _ _ _ _ _)
      | (with_reducible exact ih5 _ _)
      | (with_reducible exact pattern_Places.mono _ _ _)
      | (with_reducible exact shuttlelaw10_stands.mono _)
      | (with_reducible exact LeO.refl _)
      | (with_reducible exact LeO.none _)
      | (with_reducible refine LeO.ite ?_ ?_)
      | (with_reducible refine LeO.bind ?_ (fun _ => ?_))
      | exact ih0 _ _ _ _ _
      | exact ih1 _ _ _ _
      | exact ih2 _ _ _ _ _
      | exact ih3 _ _ _ _ _ _ _
      | exact ih4 _ _ _ _ _ _ _
      | exact ih5 _ _
      | exact pattern_Places.mono _ _ _
      | exact shuttlelaw10_stands.mono _
      | exact LeO.none _
      | refine LeO.ite ?_ ?_
      | refine LeO.bind ?_ (fun _ => ?_)
    · intro y0 y1 y2 y3
      unfold shuttlelaw10_PatternPlaces.j1
      repeat' first
      | (with_reducible exact ih0 _ _ _ _ _)
      | (with_reducible exact ih1 _ _ _ _)
      | (with_reducible exact ih2 _ _ _ _ _)
      | (with_reducible exact ih3 _ _ _ _ _ _ _)
      | (with_reducible exact ih4 _ _ _ _ _ _ _)
      | (with_reducible exact ih5 _ _)
      | (with_reducible exact pattern_Places.mono _ _ _)
      | (with_reducible exact shuttlelaw10_stands.mono _)
      | (with_reducible exact LeO.refl _)
      | (with_reducible exact LeO.none _)
      | (with_reducible refine LeO.ite ?_ ?_)
      | (with_reducible refine LeO.bind ?_ (fun _ => ?_))
      | exact ih0 _ _ _ _ _
      | exact ih1 _ _ _ _
      | exact ih2 _ _ _ _ _
      | exact ih3 _ _ _ _ _ _ _
      | exact ih4 _ _ _ _ _ _ _
      | exact ih5 _ _
      | exact pattern_Places.mono _ _ _
      | exact shuttlelaw10_stands.mono _
      | exact LeO.none _
      | refine LeO.ite ?_ ?_
      | refine LeO.bind ?_ (fun _ => ?_)
    · intro y0 y1 y2 y3 y4
      unfold shuttlelaw10_PatternPlaces.l0
      repeat' first
      | (with_reducible exact ih0 _ _ _ _ _)
      | (with_reducible exact ih1 _ _ _ _)
      | (with_reducible exact ih2 _ _ _ _ _)
      | (with_reducible exact ih3 _ _ _ _ _ _ _)
      | (with_reducible exact ih4 _ _ _ _ _ _ _)
      | (with_reducible exact ih5 _ _)
      | (with_reducible exact pattern_Places.mono _ _ _)
      | (with_reducible exact shuttlelaw10_stands.mono _)
      | (with_reducible exact LeO.refl _)
      | (with_reducible exact LeO.none _)
      | (with_reducible refine LeO.ite ?_ ?_)
      | (with_reducible refine LeO.bind ?_ (fun _ => ?_))
      | exact ih0 _ _ _ _ _
      | exact ih1 _ _ _ _
      | exact ih2 _ _ _ _ _
      | exact ih3 _ _ _ _ _ _ _
      | exact ih4 _ _ _ _ _ _ _
      | exact ih5 _ _
      | exact pattern_Places.mono _ _ _
      | exact shuttlelaw10_stands.mono _
      | exact LeO.none _
      | refine LeO.ite ?_ ?_
      | refine LeO.bind ?_ (fun _ => ?_)
    · intro y0 y1 y2 y3 y4 y5 y6
      unfold shuttlelaw10_PatternPlaces.j3
      repeat' first
      | (with_reducible exact ih0 _ _ _ _ _)
      | (with_reducible exact ih1 _ _ _ _)
      | (with_reducible exact ih2 _ _ _ _ _)
      | (with_reducible exact ih3 _ _ _ _ _ _ _)
      | (with_reducible exact ih4 _ _ _ _ _ _ _)
      | (with_reducible exact ih5 _ _)
      | (with_reducible exact pattern_Places.mono _ _ _)
      | (with_reducible exact shuttlelaw10_stands.mono _)
      | (with_reducible exact LeO.refl _)
      | (with_reducible exact LeO.none _)
      | (with_reducible refine LeO.ite ?_ ?_)
      | (with_reducible refine LeO.bind ?_ (fun _ => ?_))
      | exact ih0 _ _ _ _ _
      | exact ih1 _ _ _ _
      | exact ih2 _ _ _ _ _
      | exact ih3 _ _ _ _ _ _ _
      | exact ih4 _ _ _ _ _ _ _
      | exact ih5 _ _
      | exact pattern_Places.mono _ _ _
      | exact shuttlelaw10_stands.mono _
      | exact LeO.none _
      | refine LeO.ite ?_ ?_
      | refine LeO.bind ?_ (fun _ => ?_)
    · intro y0 y1 y2 y3 y4 y5 y6
      unfold shuttlelaw10_PatternPlaces.l1
      repeat' first
      | (with_reducible exact ih0 _ _ _ _ _)
      | (with_reducible exact ih1 _ _ _ _)
      | (with_reducible exact ih2 _ _ _ _ _)
      | (with_reducible exact ih3 _ _ _ _ _ _ _)
      | (with_reducible exact ih4 _ _ _ _ _ _ _)
      | (with_reducible exact ih5 _ _)
      | (with_reducible exact pattern_Places.mono _ _ _)
      | (with_reducible exact shuttlelaw10_stands.mono _)
      | (with_reducible exact LeO.refl _)
      | (with_reducible exact LeO.none _)
      | (with_reducible refine LeO.ite ?_ ?_)
      | (with_reducible refine LeO.bind ?_ (fun _ => ?_))
      | exact ih0 _ _ _ _ _
      | exact ih1 _ _ _ _
      | exact ih2 _ _ _ _ _
      | exact ih3 _ _ _ _ _ _ _
      | exact ih4 _ _ _ _ _ _ _
      | exact ih5 _ _
      | exact pattern_Places.mono _ _ _
      | exact shuttlelaw10_stands.mono _
      | exact LeO.none _
      | refine LeO.ite ?_ ?_
      | refine LeO.bind ?_ (fun _ => ?_)
    · intro y0 y1
      unfold shuttlelaw10_PatternPlaces.l2
      repeat' first
      | (with_reducible exact ih0 _ _ _ _ _)
      | (with_reducible exact ih1 _ _ _ _)
      | (with_reducible exact ih2 _ _ _ _ _)
      | (with_reducible exact ih3 _ _ _ _ _ _ _)
      | (with_reducible exact ih4 _ _ _ _ _ _ _)
      | (with_reducible exact ih5 _ _)
      | (with_reducible exact pattern_Places.mono _ _ _)
      | (with_reducible exact shuttlelaw10_stands.mono _)
      | (with_reducible exact LeO.refl _)
      | (with_reducible exact LeO.none _)
      | (with_reducible refine LeO.ite ?_ ?_)
      | (with_reducible refine LeO.bind ?_ (fun _ => ?_))
      | exact ih0 _ _ _ _ _
      | exact ih1 _ _ _ _
      | exact ih2 _ _ _ _ _
      | exact ih3 _ _ _ _ _ _ _
      | exact ih4 _ _ _ _ _ _ _
      | exact ih5 _ _
      | exact pattern_Places.mono _ _ _
      | exact shuttlelaw10_stands.mono _
      | exact LeO.none _
      | refine LeO.ite ?_ ?_
      | refine LeO.bind ?_ (fun _ => ?_)
theorem shuttlelaw10_PatternPlaces.mono : ∀ a0 a1 k, LeO (shuttlelaw10_PatternPlaces.f k a0 a1) (shuttlelaw10_PatternPlaces.f (k + 1) a0 a1) := by
  intro a0 a1 k
  obtain ⟨ih0, ih1, ih2, ih3, ih4, ih5⟩ := shuttlelaw10_PatternPlaces.mono_l k
  unfold shuttlelaw10_PatternPlaces.f
  repeat' first
      | (with_reducible exact ih0 _ _ _ _ _)
      | (with_reducible exact ih1 _ _ _ _)
      | (with_reducible exact ih2 _ _ _ _ _)
      | (with_reducible exact ih3 _ _ _ _ _ _ _)
      | (with_reducible exact ih4 _ _ _ _ _ _ _)
      | (with_reducible exact ih5 _ _)
      | (with_reducible exact pattern_Places.mono _ _ _)
      | (with_reducible exact shuttlelaw10_stands.mono _)
      | (with_reducible exact LeO.refl _)
      | (with_reducible exact LeO.none _)
      | (with_reducible refine LeO.ite ?_ ?_)
      | (with_reducible refine LeO.bind ?_ (fun _ => ?_))
      | exact ih0 _ _ _ _ _
      | exact ih1 _ _ _ _
      | exact ih2 _ _ _ _ _
      | exact ih3 _ _ _ _ _ _ _
      | exact ih4 _ _ _ _ _ _ _
      | exact ih5 _ _
      | exact pattern_Places.mono _ _ _
      | exact shuttlelaw10_stands.mono _
      | exact LeO.none _
      | refine LeO.ite ?_ ?_
      | refine LeO.bind ?_ (fun _ => ?_)
set_option maxHeartbeats 8000000 in
set_option maxRecDepth 100000 in
theorem shuttlelaw10_PatternPlaces.calls (k : Nat) (a0 : Int) (a1 : Int) (r : Bool) (w : World) (h : shuttlelaw10_PatternPlaces.f k a0 a1 = some r) :
    Calls Try.prog 5 #[.int .i64 a0, .int .i64 a1] w fun e w' => e = .returned (.bool r) ∧ Below w.heap.size w w' := by
  have HB := Aside0.mk (Below.refl w.heap.size w)
  have H : ((pattern_Places.f k a0 a1).bind fun bt132 => ((shuttlelaw10_stands.f k).bind fun t136 => (if t136 = true then (if a0 < 0 then (shuttlelaw10_PatternPlaces.j0 k a0 a1 bt132.1 bt132.2 true) else (if a0 > 3 then (shuttlelaw10_PatternPlaces.j0 k a0 a1 bt132.1 bt132.2 true) else (if a1 < 0 then (shuttlelaw10_PatternPlaces.j0 k a0 a1 bt132.1 bt132.2 true) else (shuttlelaw10_PatternPlaces.j0 k a0 a1 bt132.1 bt132.2 (decide (a1 > 16384)))))) else (some false)))) = some r := h
  clear h
  replace H := Option.bind_eq_some_iff.mp H
  obtain ⟨⟨t132, t133⟩, A30, H⟩ := H
  replace H : ((shuttlelaw10_stands.f k).bind fun t136 => (if t136 = true then (if a0 < 0 then (shuttlelaw10_PatternPlaces.j0 k a0 a1 t132 t133 true) else (if a0 > 3 then (shuttlelaw10_PatternPlaces.j0 k a0 a1 t132 t133 true) else (if a1 < 0 then (shuttlelaw10_PatternPlaces.j0 k a0 a1 t132 t133 true) else (shuttlelaw10_PatternPlaces.j0 k a0 a1 t132 t133 (decide (a1 > 16384)))))) else (some false))) = some r := H
  have A3 := Aside0.mk A30
  clear A30
  replace H := Option.bind_eq_some_iff.mp H
  obtain ⟨t136, A40, H⟩ := H
  replace H : (if t136 = true then (if a0 < 0 then (shuttlelaw10_PatternPlaces.j0 k a0 a1 t132 t133 true) else (if a0 > 3 then (shuttlelaw10_PatternPlaces.j0 k a0 a1 t132 t133 true) else (if a1 < 0 then (shuttlelaw10_PatternPlaces.j0 k a0 a1 t132 t133 true) else (shuttlelaw10_PatternPlaces.j0 k a0 a1 t132 t133 (decide (a1 > 16384)))))) else (some false)) = some r := H
  have A4 := Aside0.mk A40
  clear A40
  by_cases c5 : t136 = true
  · subst c5
    have H1 : (if a0 < 0 then (shuttlelaw10_PatternPlaces.j0 k a0 a1 t132 t133 true) else (if a0 > 3 then (shuttlelaw10_PatternPlaces.j0 k a0 a1 t132 t133 true) else (if a1 < 0 then (shuttlelaw10_PatternPlaces.j0 k a0 a1 t132 t133 true) else (shuttlelaw10_PatternPlaces.j0 k a0 a1 t132 t133 (decide (a1 > 16384)))))) = some r := by rw [if_pos rfl] at H; exact H
    clear H
    have H := H1
    clear H1
    have HC6 := Aside0.mk H
    clear H
    go_enter Try.func5, Try.ntmps5
    go_upto_region 4 with (first | (go_at_call 16; (with_reducible refine (pattern_Places.calls k a0 a1 t132 t133 _ A3.out).mono ?_); rintro e w7 ⟨v134, rfl, ho0, hb⟩; have n0_ := Aside0.mk (Kd.R_lower ho0 (below_size (by repeat (first | (with_reducible first | exact HB.out | apply below_alloc | apply pw_below_drewN | apply below_drew1) | exact HB.out)))); have n1_ := Aside0.mk (below_step (by repeat (first | (with_reducible first | exact HB.out | apply below_alloc | apply pw_below_drewN | apply below_drew1) | exact HB.out)) hb); clear HB; have HO135 := n0_; have HB := n1_; clear n0_ n1_; (try clear hb); (try clear hb2); (try clear hk); (try clear hi); (try clear ho0)) | (go_at_call 17; (with_reducible refine (shuttlelaw10_stands.calls k  true _ A4.out).mono ?_); rintro e w8 ⟨rfl, hb⟩; have n0_ := Aside0.mk (Kd.R_below (by (with_reducible repeat (first | apply Kd.R_alloc | apply Kd.R_drewN | apply Kd.R_drew)); exact HO135.out) hb); have n1_ := Aside0.mk (below_step (by repeat (first | (with_reducible first | exact HB.out | apply below_alloc | apply pw_below_drewN | apply below_drew1) | exact HB.out)) hb); clear HO135; clear HB; have HO135 := n0_; have HB := n1_; clear n0_ n1_; (try clear hb); (try clear hb2); (try clear hk); (try clear hi)))
    repeat ((with_reducible refine gate_quiet ?_); go_quiet (first | (go_at_call 16; (with_reducible refine (pattern_Places.calls k a0 a1 t132 t133 _ A3.out).mono ?_); rintro e w7 ⟨v134, rfl, ho0, hb⟩; have n0_ := Aside0.mk (Kd.R_lower ho0 (below_size (by repeat (first | (with_reducible first | exact HB.out | apply below_alloc | apply pw_below_drewN | apply below_drew1) | exact HB.out)))); have n1_ := Aside0.mk (below_step (by repeat (first | (with_reducible first | exact HB.out | apply below_alloc | apply pw_below_drewN | apply below_drew1) | exact HB.out)) hb); clear HB; have HO135 := n0_; have HB := n1_; clear n0_ n1_; (try clear hb); (try clear hb2); (try clear hk); (try clear hi); (try clear ho0)) | (go_at_call 17; (with_reducible refine (shuttlelaw10_stands.calls k  true _ A4.out).mono ?_); rintro e w8 ⟨rfl, hb⟩; have n0_ := Aside0.mk (Kd.R_below (by (with_reducible repeat (first | apply Kd.R_alloc | apply Kd.R_drewN | apply Kd.R_drew)); exact HO135.out) hb); have n1_ := Aside0.mk (below_step (by repeat (first | (with_reducible first | exact HB.out | apply below_alloc | apply pw_below_drewN | apply below_drew1) | exact HB.out)) hb); clear HO135; clear HB; have HO135 := n0_; have HB := n1_; clear n0_ n1_; (try clear hb); (try clear hb2); (try clear hk); (try clear hi))); go_upto_region 4 with (first | (go_at_call 16; (with_reducible refine (pattern_Places.calls k a0 a1 t132 t133 _ A3.out).mono ?_); rintro e w7 ⟨v134, rfl, ho0, hb⟩; have n0_ := Aside0.mk (Kd.R_lower ho0 (below_size (by repeat (first | (with_reducible first | exact HB.out | apply below_alloc | apply pw_below_drewN | apply below_drew1) | exact HB.out)))); have n1_ := Aside0.mk (below_step (by repeat (first | (with_reducible first | exact HB.out | apply below_alloc | apply pw_below_drewN | apply below_drew1) | exact HB.out)) hb); clear HB; have HO135 := n0_; have HB := n1_; clear n0_ n1_; (try clear hb); (try clear hb2); (try clear hk); (try clear hi); (try clear ho0)) | (go_at_call 17; (with_reducible refine (shuttlelaw10_stands.calls k  true _ A4.out).mono ?_); rintro e w8 ⟨rfl, hb⟩; have n0_ := Aside0.mk (Kd.R_below (by (with_reducible repeat (first | apply Kd.R_alloc | apply Kd.R_drewN | apply Kd.R_drew)); exact HO135.out) hb); have n1_ := Aside0.mk (below_step (by repeat (first | (with_reducible first | exact HB.out | apply below_alloc | apply pw_below_drewN | apply below_drew1) | exact HB.out)) hb); clear HO135; clear HB; have HO135 := n0_; have HB := n1_; clear n0_ n1_; (try clear hb); (try clear hb2); (try clear hk); (try clear hi))))
    (try simp only [Act.put, List.setIfInBounds_toArray, List.set_cons_zero, List.set_cons_succ])
    go_cut [34] (fun v34 wc => ∃ (kq : Nat) (x34_5 : Bool), v34 = .bool x34_5 ∧ Aside0 (shuttlelaw10_PatternPlaces.j0 kq a0 a1 t132 t133 x34_5 = some r) ∧ Aside0 (kq ≤ k) ∧ Aside0 (Kd.R (Kd.int .i64) 3 wc w.heap.size (fun _ => True) v134 t132) ∧ Aside0 (Below w.heap.size w wc))
    case first =>
      have H := HC6.out
      clear HC6
      by_cases c9 : a0 < 0
      · rw [if_pos c9] at H
        have c9b0 : decide (a0 < 0) = true := decide_eq_true c9
        clear c9
        (first | rw [c9b0] | (simp only [i64_w, i32_w]; rw [c9b0]) | skip)
        have H' := Aside0.mk H
        clear H
        go_wp2
        repeat ((with_reducible refine gate_quiet ?_); go_quiet (fail); try go_wp2)
        go_meet
        case rel => exact ⟨_, (true), (by first | rfl | (simp; done) | (simp [*]; done)), H', ⟨by first | omega | exact Nat.le_refl _⟩, ⟨by (with_reducible repeat (first | apply Kd.R_alloc | apply Kd.R_drewN | apply Kd.R_drew)); exact HO135.out⟩, ⟨by repeat (first | (with_reducible first | exact HB.out | apply below_alloc | apply pw_below_drewN | apply below_drew1) | exact HB.out)⟩⟩
      · rw [if_neg c9] at H
        have c9b0 : decide (a0 < 0) = false := decide_eq_false c9
        clear c9
        (first | rw [c9b0] | (simp only [i64_w, i32_w]; rw [c9b0]) | skip)
        by_cases c10 : a0 > 3
        · rw [if_pos c10] at H
          have c10b0 : decide (3 < a0) = true := decide_eq_true c10
          clear c10
          have H' := Aside0.mk H
          clear H
          go_wp2
          repeat ((with_reducible refine gate_quiet ?_); go_quiet (fail); try go_wp2)
          go_meet
          case rel => exact ⟨_, (true), (by first | rfl | (simp; done) | (simp [*]; done)), H', ⟨by first | omega | exact Nat.le_refl _⟩, ⟨by (with_reducible repeat (first | apply Kd.R_alloc | apply Kd.R_drewN | apply Kd.R_drew)); exact HO135.out⟩, ⟨by repeat (first | (with_reducible first | exact HB.out | apply below_alloc | apply pw_below_drewN | apply below_drew1) | exact HB.out)⟩⟩
        · rw [if_neg c10] at H
          have c10b0 : decide (3 < a0) = false := decide_eq_false c10
          clear c10
          by_cases c11 : a1 < 0
          · rw [if_pos c11] at H
            have c11b0 : decide (a1 < 0) = true := decide_eq_true c11
            clear c11
            have H' := Aside0.mk H
            clear H
            go_wp2
            repeat ((with_reducible refine gate_quiet ?_); go_quiet (fail); try go_wp2)
            go_meet
            case rel => exact ⟨_, (true), (by first | rfl | (simp; done) | (simp [*]; done)), H', ⟨by first | omega | exact Nat.le_refl _⟩, ⟨by (with_reducible repeat (first | apply Kd.R_alloc | apply Kd.R_drewN | apply Kd.R_drew)); exact HO135.out⟩, ⟨by repeat (first | (with_reducible first | exact HB.out | apply below_alloc | apply pw_below_drewN | apply below_drew1) | exact HB.out)⟩⟩
          · rw [if_neg c11] at H
            have c11b0 : decide (a1 < 0) = false := decide_eq_false c11
            clear c11
            have H' := Aside0.mk H
            clear H
            go_wp2
            repeat ((with_reducible refine gate_quiet ?_); go_quiet (fail); try go_wp2)
            go_meet
            case rel => exact ⟨_, (decide (a1 > 16384)), (by first | rfl | (simp; done) | (simp [*]; done)), H', ⟨by first | omega | exact Nat.le_refl _⟩, ⟨by (with_reducible repeat (first | apply Kd.R_alloc | apply Kd.R_drewN | apply Kd.R_drew)); exact HO135.out⟩, ⟨by repeat (first | (with_reducible first | exact HB.out | apply below_alloc | apply pw_below_drewN | apply below_drew1) | exact HB.out)⟩⟩
    case rest =>
      clear HC6
      try clear c1
      try clear p2
      try clear c5
      try clear c9
      try clear c9b0
      try clear c10
      try clear c10b0
      try clear c11
      try clear c11b0
      obtain ⟨kq, x34_5, rfl, HA, HJ5, HO_5, HB⟩ := hcut
      cases kq with
      | zero => exact absurd HA.out (by simp [shuttlelaw10_PatternPlaces.j0])
      | succ kj5 =>
        have H := HA.out
        clear HA
        simp only [shuttlelaw10_PatternPlaces.j0] at H
        by_cases c12 : x34_5 = true
        · subst c12
          have H1 : (if t133 = 1 then (some ((t132.length : Int) == 0)) else (some false)) = some r := by rw [if_pos rfl] at H; exact H
          clear H
          have H := H1
          clear H1
          by_cases c13 : t133 = 1
          · rw [if_pos c13] at H
            have c13b0 : (t133 == 1) = true := beq_iff_eq.mpr c13
            have c13b1 : (t133 != 1) = false := bne_eq_false_iff_eq.mpr c13
            clear c13
            obtain rfl := Option.some.inj H
            obtain ⟨Ao14, co14, eo14⟩ := Kd.R_slice HO_5.out
            subst eo14
            go_wp2
            repeat ((with_reducible refine gate_quiet ?_); go_quiet (fail); try go_wp2)
            go_ret
            exact ⟨by first | rfl | (simp [errW_none, errW_some] <;> rfl) | (simp [*, errW_none, errW_some] <;> rfl), by repeat (first | (with_reducible first | exact HB.out | apply below_alloc | apply pw_below_drewN | apply below_drew1) | exact HB.out)⟩
          · rw [if_neg c13] at H
            have c13b0 : (t133 == 1) = false := beq_eq_false_iff_ne.mpr c13
            have c13b1 : (t133 != 1) = true := bne_iff_ne.mpr c13
            obtain rfl := Option.some.inj H
            go_wp2
            repeat ((with_reducible refine gate_quiet ?_); go_quiet (fail); try go_wp2)
            go_ret
            exact ⟨by first | rfl | (simp [errW_none, errW_some] <;> rfl) | (simp [*, errW_none, errW_some] <;> rfl), by repeat (first | (with_reducible first | exact HB.out | apply below_alloc | apply pw_below_drewN | apply below_drew1) | exact HB.out)⟩
        · replace c12 := Bool.eq_false_iff.mpr c12
          subst c12
          have H1 : (if t133 = 0 then (shuttlelaw10_PatternPlaces.j1 kj5 a0 a1 t132 ((t132.length : Int) != a1)) else (shuttlelaw10_PatternPlaces.j1 kj5 a0 a1 t132 true)) = some r := by rw [if_neg (show ¬ (false = true) by decide)] at H; exact H
          clear H
          have H := H1
          clear H1
          have HC15 := Aside0.mk H
          clear H
          go_upto_region 6 with (fail)
          repeat ((with_reducible refine gate_quiet ?_); go_quiet (fail); go_upto_region 6 with (fail))
          go_cut [49] (fun v49 wc => ∃ (kq : Nat) (x49_14 : Bool), v49 = .bool x49_14 ∧ Aside0 (shuttlelaw10_PatternPlaces.j1 kq a0 a1 t132 x49_14 = some r) ∧ Aside0 (kq ≤ kj5) ∧ Aside0 (Kd.R (Kd.int .i64) 3 wc w.heap.size (fun _ => True) v134 t132) ∧ Aside0 (Below w.heap.size w wc))
          case first =>
            have H := HC15.out
            clear HC15
            by_cases c16 : t133 = 0
            · rw [if_pos c16] at H
              have c16b0 : (t133 == 0) = true := beq_iff_eq.mpr c16
              have c16b1 : (t133 != 0) = false := bne_eq_false_iff_eq.mpr c16
              clear c16
              (first | rw [c16b0] | (simp only [i64_w, i32_w]; rw [c16b0]) | skip)
              have H' := Aside0.mk H
              clear H
              obtain ⟨Ao17, co17, eo17⟩ := Kd.R_slice HO_5.out
              subst eo17
              go_wp2
              repeat ((with_reducible refine gate_quiet ?_); go_quiet (fail); try go_wp2)
              go_meet
              case rel => exact ⟨_, (((t132.length : Int) != a1)), (by first | rfl | (simp; done) | (simp [*]; done)), H', ⟨by have := HJ5.out; first | omega | exact Nat.le_refl _⟩, ⟨by (with_reducible repeat (first | apply Kd.R_alloc | apply Kd.R_drewN | apply Kd.R_drew)); exact HO_5.out⟩, ⟨by repeat (first | (with_reducible first | exact HB.out | apply below_alloc | apply pw_below_drewN | apply below_drew1) | exact HB.out)⟩⟩
            · rw [if_neg c16] at H
              have c16b0 : (t133 == 0) = false := beq_eq_false_iff_ne.mpr c16
              have c16b1 : (t133 != 0) = true := bne_iff_ne.mpr c16
              (first | rw [c16b0] | (simp only [i64_w, i32_w]; rw [c16b0]) | skip)
              have H' := Aside0.mk H
              clear H
              go_wp2
              repeat ((with_reducible refine gate_quiet ?_); go_quiet (fail); try go_wp2)
              go_meet
              case rel => exact ⟨_, (true), (by first | rfl | (simp; done) | (simp [*]; done)), H', ⟨by have := HJ5.out; first | omega | exact Nat.le_refl _⟩, ⟨by (with_reducible repeat (first | apply Kd.R_alloc | apply Kd.R_drewN | apply Kd.R_drew)); exact HO_5.out⟩, ⟨by repeat (first | (with_reducible first | exact HB.out | apply below_alloc | apply pw_below_drewN | apply below_drew1) | exact HB.out)⟩⟩
          case rest =>
            clear HC15
            try clear c1
            try clear p2
            try clear c5
            try clear c9
            try clear c9b0
            try clear c10
            try clear c10b0
            try clear c11
            try clear c11b0
            try clear c12
            try clear c13
            try clear c13b0
            try clear c13b1
            try clear c16
            try clear c16b0
            try clear c16b1
            try clear p2
            obtain ⟨kq, x49_14, rfl, HA, HJ14, HO_5, HB⟩ := hcut
            cases kq with
            | zero => exact absurd HA.out (by simp [shuttlelaw10_PatternPlaces.j1])
            | succ kj14 =>
              have H := HA.out
              clear HA
              simp only [shuttlelaw10_PatternPlaces.j1] at H
              by_cases c18 : x49_14 = true
              · subst c18
                have H1 : (some false) = some r := by rw [if_pos rfl] at H; exact H
                clear H
                have H := H1
                clear H1
                obtain rfl := Option.some.inj H
                go_wp2
                repeat ((with_reducible refine gate_quiet ?_); go_quiet (fail); try go_wp2)
                go_ret
                exact ⟨by first | rfl | (simp [errW_none, errW_some] <;> rfl) | (simp [*, errW_none, errW_some] <;> rfl), by repeat (first | (with_reducible first | exact HB.out | apply below_alloc | apply pw_below_drewN | apply below_drew1) | exact HB.out)⟩
              · replace c18 := Bool.eq_false_iff.mpr c18
                subst c18
                have H1 : (if 0 ≤ (wrap64 (4 * a1)) then (if (wrap64 (4 * a1) : Int).toNat ≤ 35184372088832 then (shuttlelaw10_PatternPlaces.l0 kj14 a0 a1 t132 (List.replicate (wrap64 (4 * a1) : Int).toNat 0) 0) else (none)) else (none)) = some r := by rw [if_neg (show ¬ (false = true) by decide)] at H; exact H
                clear H
                have H := H1
                clear H1
                obtain ⟨ji19, hji19⟩ : ∃ j_ : Int, (wrap64 (4 * a1)) = j_ := ⟨_, rfl⟩
                replace H : (if 0 ≤ (ji19) then (if (ji19 : Int).toNat ≤ 35184372088832 then (shuttlelaw10_PatternPlaces.l0 kj14 a0 a1 t132 (List.replicate (ji19 : Int).toNat 0) 0) else (none)) else (none)) = some r := by first | (rw [hji19] at H; exact H) | (simp only [hji19] at H ⊢; exact H)
                have hji19w : (IntKind.i64.wrap (4 * a1)) = ji19 := (i64_w _).trans hji19
                by_cases c20 : 0 ≤ (ji19)
                · rw [if_pos c20] at H
                  have c20b0 := eq_true c20
                  have c20b1 : decide (0 ≤ (ji19)) = true := decide_eq_true c20
                  clear c20
                  by_cases c21 : (ji19 : Int).toNat ≤ 35184372088832
                  · rw [if_pos c21] at H
                    have c21b0 := eq_true c21
                    have c21b1 : decide ((ji19 : Int).toNat ≤ 35184372088832) = true := decide_eq_true c21
                    clear c21
                    obtain ⟨y137, hy137⟩ : ∃ y_ : List Int, y_ = (List.replicate (ji19 : Int).toNat 0) := ⟨_, rfl⟩
                    replace H : (shuttlelaw10_PatternPlaces.l0 kj14 a0 a1 t132 y137 0) = some r := by first | (rw [hy137]; with_reducible exact H) | (have H2_ := (Option.bind_some _ _).symm.trans H; rw [hy137]; with_reducible exact H2_) | (have H2_ := (Option.bind_some _ _).symm.trans H; with_reducible exact H2_) | with_reducible exact H | (rw [hy137]; exact H) | exact H
                    have Ny137 := Aside0.mk hy137
                    clear hy137
                    have H' := Aside0.mk H
                    clear H
                    go_wp2_with (first | ((with_reducible refine gate_dst (N := 52) rfl ?_); (try (refine gate_guard (by rfl) ?_; dsimp only)); refine Kd.R_make (Kd.int .i64) _ 3 rfl (N := 52) rfl 29 _ _ rfl ji19 rfl rfl Try.underlying29 (.int .i64 0) 8 info3 rfl (by decide) (by omega) 0 (ok := fun _ => True) (okp := fun _ => True) rfl (fun _ hk => hk) trivial (of_decide_eq_true (by first | (with_reducible assumption) | assumption)) (Nat.le_trans (Nat.mul_le_mul_right _ (of_decide_eq_true (by first | (with_reducible assumption) | assumption) : ji19.toNat ≤ 35184372088832)) (by omega)) (Below.refl _ _) (Nat.le_refl _) ?_; intro v138 w22 ho23 hb hg_ hnew_; clear hg_ hnew_; (first | rw [← Ny137.out] at ho23 | (simp only [Int.reduceToNat] at ho23; rw [← Ny137.out] at ho23)); have n0_ := Aside0.mk (Kd.R_elder' (by (with_reducible repeat (first | apply Kd.R_alloc | apply Kd.R_drewN | apply Kd.R_drew)); exact HO_5.out) (Kd.R_base ho23) hb); have n1_ := Aside0.mk (Kd.R_lower (Kd.R_new' ho23 (Kd.R_lt (by (with_reducible repeat (first | apply Kd.R_alloc | apply Kd.R_drewN | apply Kd.R_drew)); exact HO_5.out))) (below_size (by repeat (first | (with_reducible first | exact HB.out | apply below_alloc | apply pw_below_drewN | apply below_drew1) | exact HB.out)))); have n2_ := Aside0.mk (below_step (by repeat (first | (with_reducible first | exact HB.out | apply below_alloc | apply pw_below_drewN | apply below_drew1) | exact HB.out)) hb); clear HO_5; clear HB; have HO_5 := n0_; have HO139 := n1_; have HB := n2_; clear n0_ n1_ n2_; clear hb ho23))
                    repeat ((with_reducible refine gate_quiet ?_); go_quiet (first | ((with_reducible refine gate_dst (N := 52) rfl ?_); (try (refine gate_guard (by rfl) ?_; dsimp only)); refine Kd.R_make (Kd.int .i64) _ 3 rfl (N := 52) rfl 29 _ _ rfl ji19 rfl rfl Try.underlying29 (.int .i64 0) 8 info3 rfl (by decide) (by omega) 0 (ok := fun _ => True) (okp := fun _ => True) rfl (fun _ hk => hk) trivial (of_decide_eq_true (by first | (with_reducible assumption) | assumption)) (Nat.le_trans (Nat.mul_le_mul_right _ (of_decide_eq_true (by first | (with_reducible assumption) | assumption) : ji19.toNat ≤ 35184372088832)) (by omega)) (Below.refl _ _) (Nat.le_refl _) ?_; intro v138 w22 ho23 hb hg_ hnew_; clear hg_ hnew_; (first | rw [← Ny137.out] at ho23 | (simp only [Int.reduceToNat] at ho23; rw [← Ny137.out] at ho23)); have n0_ := Aside0.mk (Kd.R_elder' (by (with_reducible repeat (first | apply Kd.R_alloc | apply Kd.R_drewN | apply Kd.R_drew)); exact HO_5.out) (Kd.R_base ho23) hb); have n1_ := Aside0.mk (Kd.R_lower (Kd.R_new' ho23 (Kd.R_lt (by (with_reducible repeat (first | apply Kd.R_alloc | apply Kd.R_drewN | apply Kd.R_drew)); exact HO_5.out))) (below_size (by repeat (first | (with_reducible first | exact HB.out | apply below_alloc | apply pw_below_drewN | apply below_drew1) | exact HB.out)))); have n2_ := Aside0.mk (below_step (by repeat (first | (with_reducible first | exact HB.out | apply below_alloc | apply pw_below_drewN | apply below_drew1) | exact HB.out)) hb); clear HO_5; clear HB; have HO_5 := n0_; have HO139 := n1_; have HB := n2_; clear n0_ n1_ n2_; clear hb ho23)); try go_wp2_with (first | ((with_reducible refine gate_dst (N := 52) rfl ?_); (try (refine gate_guard (by rfl) ?_; dsimp only)); refine Kd.R_make (Kd.int .i64) _ 3 rfl (N := 52) rfl 29 _ _ rfl ji19 rfl rfl Try.underlying29 (.int .i64 0) 8 info3 rfl (by decide) (by omega) 0 (ok := fun _ => True) (okp := fun _ => True) rfl (fun _ hk => hk) trivial (of_decide_eq_true (by first | (with_reducible assumption) | assumption)) (Nat.le_trans (Nat.mul_le_mul_right _ (of_decide_eq_true (by first | (with_reducible assumption) | assumption) : ji19.toNat ≤ 35184372088832)) (by omega)) (Below.refl _ _) (Nat.le_refl _) ?_; intro v138 w22 ho23 hb hg_ hnew_; clear hg_ hnew_; (first | rw [← Ny137.out] at ho23 | (simp only [Int.reduceToNat] at ho23; rw [← Ny137.out] at ho23)); have n0_ := Aside0.mk (Kd.R_elder' (by (with_reducible repeat (first | apply Kd.R_alloc | apply Kd.R_drewN | apply Kd.R_drew)); exact HO_5.out) (Kd.R_base ho23) hb); have n1_ := Aside0.mk (Kd.R_lower (Kd.R_new' ho23 (Kd.R_lt (by (with_reducible repeat (first | apply Kd.R_alloc | apply Kd.R_drewN | apply Kd.R_drew)); exact HO_5.out))) (below_size (by repeat (first | (with_reducible first | exact HB.out | apply below_alloc | apply pw_below_drewN | apply below_drew1) | exact HB.out)))); have n2_ := Aside0.mk (below_step (by repeat (first | (with_reducible first | exact HB.out | apply below_alloc | apply pw_below_drewN | apply below_drew1) | exact HB.out)) hb); clear HO_5; clear HB; have HO_5 := n0_; have HO139 := n1_; have HB := n2_; clear n0_ n1_ n2_; clear hb ho23)))
                    go_loopg [8] kj14 (fun kq v8 w' => ∃ (x7_3 : List Int) (x8_3 : Int), v8 = .int .i64 x8_3 ∧ Aside0 (shuttlelaw10_PatternPlaces.l0 kq a0 a1 t132 x7_3 x8_3 = some r) ∧ Aside0 (kq ≤ kj14) ∧ Aside0 (Kd.R (Kd.int .i64) 3 w' w.heap.size (fun k_ => some k_ ≠ (v138 : Value).ownBlock) v134 t132) ∧ Aside0 (Kd.R (Kd.int .i64) 3 w' w.heap.size (fun k_ => some k_ ≠ (v134 : Value).ownBlock) v138 x7_3) ∧ Aside0 (Below w.heap.size w w'))
                    case atStart => exact ⟨(y137), (0), (by first | rfl | (simp; done) | (simp [*]; done)), H', ⟨Nat.le_refl _⟩, ⟨by (with_reducible repeat (first | apply Kd.R_alloc | apply Kd.R_drewN | apply Kd.R_drew)); exact Kd.R_mono HO_5.out (fun _ hk => hk.2)⟩, ⟨by (with_reducible repeat (first | apply Kd.R_alloc | apply Kd.R_drewN | apply Kd.R_drew)); exact Kd.R_mono HO139.out (fun _ hk => hk.2)⟩, ⟨by repeat (first | (with_reducible first | exact HB.out | apply below_alloc | apply pw_below_drewN | apply below_drew1) | exact HB.out)⟩⟩
                    case round =>
                      clear H'
                      try clear c1
                      try clear c2
                      try clear p2
                      try clear c5
                      try clear p6
                      try clear c9
                      try clear c9b0
                      try clear c10
                      try clear c10b0
                      try clear c11
                      try clear c11b0
                      try clear c12
                      try clear c13
                      try clear c13b0
                      try clear c13b1
                      try clear c16
                      try clear c16b0
                      try clear c16b1
                      try clear c18
                      try clear c20
                      try clear c20b0
                      try clear c20b1
                      try clear c21
                      try clear c21b0
                      try clear c21b1
                      try clear p2
                      obtain ⟨x7_3, x8_3, rfl, HA, HK3, HO_5, HO_7, HB⟩ := hrel
                      cases gk with
                      | zero => exact absurd HA.out (by simp [shuttlelaw10_PatternPlaces.l0])
                      | succ k3 =>
                        have H := HA.out
                        clear HA
                        simp only [shuttlelaw10_PatternPlaces.l0] at H
                        by_cases c24 : x8_3 < 4
                        · rw [if_pos c24] at H
                          have c24b0 : decide (x8_3 < 4) = true := decide_eq_true c24
                          clear c24
                          replace H := Option.bind_eq_some_iff.mp H
                          obtain ⟨⟨t140, t141⟩, A250, H⟩ := H
                          replace H : (if t141 = 0 then (shuttlelaw10_PatternPlaces.j3 k3 a0 a1 t132 x7_3 x8_3 t140 ((t140.length : Int) != a1)) else (shuttlelaw10_PatternPlaces.j3 k3 a0 a1 t132 x7_3 x8_3 t140 true)) = some r := H
                          have A25 := Aside0.mk A250
                          clear A250
                          have HC26 := Aside0.mk H
                          clear H
                          go_upto_region 13 with (first | (go_at_call 16; (with_reducible refine (pattern_Places.calls k3 x8_3 a1 t140 t141 _ A25.out).mono ?_); rintro e w27 ⟨v142, rfl, ho0, hb⟩; have n0_ := Aside0.mk (Kd.R_elder' (by (with_reducible repeat (first | apply Kd.R_alloc | apply Kd.R_drewN | apply Kd.R_drew)); exact HO_5.out) (Kd.R_base ho0) hb); have n1_ := Aside0.mk (Kd.R_elder' (by (with_reducible repeat (first | apply Kd.R_alloc | apply Kd.R_drewN | apply Kd.R_drew)); exact HO_7.out) (Kd.R_base ho0) hb); have n2_ := Aside0.mk (Kd.R_lower (Kd.R_new' (Kd.R_new' ho0 (Kd.R_lt (by (with_reducible repeat (first | apply Kd.R_alloc | apply Kd.R_drewN | apply Kd.R_drew)); exact HO_5.out))) (Kd.R_lt (by (with_reducible repeat (first | apply Kd.R_alloc | apply Kd.R_drewN | apply Kd.R_drew)); exact HO_7.out))) (below_size (by repeat (first | (with_reducible first | exact HB.out | apply below_alloc | apply pw_below_drewN | apply below_drew1) | exact HB.out)))); have n3_ := Aside0.mk (below_step (by repeat (first | (with_reducible first | exact HB.out | apply below_alloc | apply pw_below_drewN | apply below_drew1) | exact HB.out)) hb); clear HO_5; clear HO_7; clear HB; have HO_5 := n0_; have HO_7 := n1_; have HO143 := n2_; have HB := n3_; clear n0_ n1_ n2_ n3_; (try clear hb); (try clear hb2); (try clear hk); (try clear hi); (try clear ho0)))
                          repeat ((with_reducible refine gate_quiet ?_); go_quiet (first | (go_at_call 16; (with_reducible refine (pattern_Places.calls k3 x8_3 a1 t140 t141 _ A25.out).mono ?_); rintro e w27 ⟨v142, rfl, ho0, hb⟩; have n0_ := Aside0.mk (Kd.R_elder' (by (with_reducible repeat (first | apply Kd.R_alloc | apply Kd.R_drewN | apply Kd.R_drew)); exact HO_5.out) (Kd.R_base ho0) hb); have n1_ := Aside0.mk (Kd.R_elder' (by (with_reducible repeat (first | apply Kd.R_alloc | apply Kd.R_drewN | apply Kd.R_drew)); exact HO_7.out) (Kd.R_base ho0) hb); have n2_ := Aside0.mk (Kd.R_lower (Kd.R_new' (Kd.R_new' ho0 (Kd.R_lt (by (with_reducible repeat (first | apply Kd.R_alloc | apply Kd.R_drewN | apply Kd.R_drew)); exact HO_5.out))) (Kd.R_lt (by (with_reducible repeat (first | apply Kd.R_alloc | apply Kd.R_drewN | apply Kd.R_drew)); exact HO_7.out))) (below_size (by repeat (first | (with_reducible first | exact HB.out | apply below_alloc | apply pw_below_drewN | apply below_drew1) | exact HB.out)))); have n3_ := Aside0.mk (below_step (by repeat (first | (with_reducible first | exact HB.out | apply below_alloc | apply pw_below_drewN | apply below_drew1) | exact HB.out)) hb); clear HO_5; clear HO_7; clear HB; have HO_5 := n0_; have HO_7 := n1_; have HO143 := n2_; have HB := n3_; clear n0_ n1_ n2_ n3_; (try clear hb); (try clear hb2); (try clear hk); (try clear hi); (try clear ho0))); go_upto_region 13 with (first | (go_at_call 16; (with_reducible refine (pattern_Places.calls k3 x8_3 a1 t140 t141 _ A25.out).mono ?_); rintro e w27 ⟨v142, rfl, ho0, hb⟩; have n0_ := Aside0.mk (Kd.R_elder' (by (with_reducible repeat (first | apply Kd.R_alloc | apply Kd.R_drewN | apply Kd.R_drew)); exact HO_5.out) (Kd.R_base ho0) hb); have n1_ := Aside0.mk (Kd.R_elder' (by (with_reducible repeat (first | apply Kd.R_alloc | apply Kd.R_drewN | apply Kd.R_drew)); exact HO_7.out) (Kd.R_base ho0) hb); have n2_ := Aside0.mk (Kd.R_lower (Kd.R_new' (Kd.R_new' ho0 (Kd.R_lt (by (with_reducible repeat (first | apply Kd.R_alloc | apply Kd.R_drewN | apply Kd.R_drew)); exact HO_5.out))) (Kd.R_lt (by (with_reducible repeat (first | apply Kd.R_alloc | apply Kd.R_drewN | apply Kd.R_drew)); exact HO_7.out))) (below_size (by repeat (first | (with_reducible first | exact HB.out | apply below_alloc | apply pw_below_drewN | apply below_drew1) | exact HB.out)))); have n3_ := Aside0.mk (below_step (by repeat (first | (with_reducible first | exact HB.out | apply below_alloc | apply pw_below_drewN | apply below_drew1) | exact HB.out)) hb); clear HO_5; clear HO_7; clear HB; have HO_5 := n0_; have HO_7 := n1_; have HO143 := n2_; have HB := n3_; clear n0_ n1_ n2_ n3_; (try clear hb); (try clear hb2); (try clear hk); (try clear hi); (try clear ho0))))
                          (try simp only [Act.put, List.setIfInBounds_toArray, List.set_cons_zero, List.set_cons_succ])
                          go_cut [70] (fun v70 wc => ∃ (kq : Nat) (x70_25 : Bool), v70 = .bool x70_25 ∧ Aside0 (shuttlelaw10_PatternPlaces.j3 kq a0 a1 t132 x7_3 x8_3 t140 x70_25 = some r) ∧ Aside0 (kq ≤ k3) ∧ Aside0 (Kd.R (Kd.int .i64) 3 wc w.heap.size (fun k_ => some k_ ≠ (v138 : Value).ownBlock ∧ some k_ ≠ (v142 : Value).ownBlock) v134 t132) ∧ Aside0 (Kd.R (Kd.int .i64) 3 wc w.heap.size (fun k_ => some k_ ≠ (v134 : Value).ownBlock ∧ some k_ ≠ (v142 : Value).ownBlock) v138 x7_3) ∧ Aside0 (Kd.R (Kd.int .i64) 3 wc w.heap.size (fun k_ => some k_ ≠ (v134 : Value).ownBlock ∧ some k_ ≠ (v138 : Value).ownBlock) v142 t140) ∧ Aside0 (Below w.heap.size w wc))
                          case first =>
                            have H := HC26.out
                            clear HC26
                            by_cases c28 : t141 = 0
                            · rw [if_pos c28] at H
                              have c28b0 : (t141 == 0) = true := beq_iff_eq.mpr c28
                              have c28b1 : (t141 != 0) = false := bne_eq_false_iff_eq.mpr c28
                              clear c28
                              (first | rw [c28b0] | (simp only [i64_w, i32_w]; rw [c28b0]) | skip)
                              have H' := Aside0.mk H
                              clear H
                              obtain ⟨Ao29, co29, eo29⟩ := Kd.R_slice HO143.out
                              subst eo29
                              go_wp2
                              repeat ((with_reducible refine gate_quiet ?_); go_quiet (fail); try go_wp2)
                              go_meet
                              case rel => exact ⟨_, (((t140.length : Int) != a1)), (by first | rfl | (simp; done) | (simp [*]; done)), H', ⟨by have := HJ5.out; have := HJ14.out; have := HK3.out; first | omega | exact Nat.le_refl _⟩, ⟨by (with_reducible repeat (first | apply Kd.R_alloc | apply Kd.R_drewN | apply Kd.R_drew)); exact HO_5.out⟩, ⟨by (with_reducible repeat (first | apply Kd.R_alloc | apply Kd.R_drewN | apply Kd.R_drew)); exact HO_7.out⟩, ⟨by (with_reducible repeat (first | apply Kd.R_alloc | apply Kd.R_drewN | apply Kd.R_drew)); exact Kd.R_mono HO143.out (fun _ hk => by first | exact ⟨hk.1.2, hk.2⟩ | ((repeat' constructor) <;> (first | exact hk | exact hk.1 | exact hk.2 | exact hk.1.1 | exact hk.1.2 | exact hk.2.1 | exact hk.2.2 | exact hk.2.2.1 | exact hk.2.2.2 | exact hk.1.2.1 | exact hk.1.2.2 | exact hk.2.1.1 | exact hk.2.1.2 | exact hk.1.1.1 | exact hk.1.1.2)))⟩, ⟨by repeat (first | (with_reducible first | exact HB.out | apply below_alloc | apply pw_below_drewN | apply below_drew1) | exact HB.out)⟩⟩
                            · rw [if_neg c28] at H
                              have c28b0 : (t141 == 0) = false := beq_eq_false_iff_ne.mpr c28
                              have c28b1 : (t141 != 0) = true := bne_iff_ne.mpr c28
                              (first | rw [c28b0] | (simp only [i64_w, i32_w]; rw [c28b0]) | skip)
                              have H' := Aside0.mk H
                              clear H
                              go_wp2
                              repeat ((with_reducible refine gate_quiet ?_); go_quiet (fail); try go_wp2)
                              go_meet
                              case rel => exact ⟨_, (true), (by first | rfl | (simp; done) | (simp [*]; done)), H', ⟨by have := HJ5.out; have := HJ14.out; have := HK3.out; first | omega | exact Nat.le_refl _⟩, ⟨by (with_reducible repeat (first | apply Kd.R_alloc | apply Kd.R_drewN | apply Kd.R_drew)); exact HO_5.out⟩, ⟨by (with_reducible repeat (first | apply Kd.R_alloc | apply Kd.R_drewN | apply Kd.R_drew)); exact HO_7.out⟩, ⟨by (with_reducible repeat (first | apply Kd.R_alloc | apply Kd.R_drewN | apply Kd.R_drew)); exact Kd.R_mono HO143.out (fun _ hk => by first | exact ⟨hk.1.2, hk.2⟩ | ((repeat' constructor) <;> (first | exact hk | exact hk.1 | exact hk.2 | exact hk.1.1 | exact hk.1.2 | exact hk.2.1 | exact hk.2.2 | exact hk.2.2.1 | exact hk.2.2.2 | exact hk.1.2.1 | exact hk.1.2.2 | exact hk.2.1.1 | exact hk.2.1.2 | exact hk.1.1.1 | exact hk.1.1.2)))⟩, ⟨by repeat (first | (with_reducible first | exact HB.out | apply below_alloc | apply pw_below_drewN | apply below_drew1) | exact HB.out)⟩⟩
                          case rest =>
                            clear HC26
                            try clear c1
                            try clear c2
                            try clear p2
                            try clear c5
                            try clear p6
                            try clear c9
                            try clear c9b0
                            try clear c10
                            try clear c10b0
                            try clear c11
                            try clear c11b0
                            try clear c12
                            try clear c13
                            try clear c13b0
                            try clear c13b1
                            try clear c16
                            try clear c16b0
                            try clear c16b1
                            try clear c18
                            try clear c20
                            try clear c20b0
                            try clear c20b1
                            try clear c21
                            try clear c21b0
                            try clear c21b1
                            try clear c24
                            try clear c24b0
                            try clear c28
                            try clear c28b0
                            try clear c28b1
                            try clear p2
                            try clear p6
                            obtain ⟨kq, x70_25, rfl, HA, HJ25, HO_5, HO_7, HO_9, HB⟩ := hcut
                            cases kq with
                            | zero => exact absurd HA.out (by simp [shuttlelaw10_PatternPlaces.j3])
                            | succ kj25 =>
                              have H := HA.out
                              clear HA
                              simp only [shuttlelaw10_PatternPlaces.j3] at H
                              by_cases c30 : x70_25 = true
                              · subst c30
                                have H1 : (some false) = some r := by rw [if_pos rfl] at H; exact H
                                clear H
                                have H := H1
                                clear H1
                                obtain rfl := Option.some.inj H
                                go_wp2
                                repeat ((with_reducible refine gate_quiet ?_); go_quiet (fail); try go_wp2)
                                go_ret
                                exact ⟨by first | rfl | (simp [errW_none, errW_some] <;> rfl) | (simp only [← hji19]; first | rfl | (simp [errW_none, errW_some] <;> rfl)) | (simp [*, errW_none, errW_some] <;> rfl), by repeat (first | (with_reducible first | exact HB.out | apply below_alloc | apply pw_below_drewN | apply below_drew1) | exact HB.out)⟩
                              · replace c30 := Bool.eq_false_iff.mpr c30
                                subst c30
                                have H1 : (shuttlelaw10_PatternPlaces.l1 kj25 a0 a1 t132 x7_3 x8_3 t140 0) = some r := by rw [if_neg (show ¬ (false = true) by decide)] at H; exact H
                                clear H
                                have H := H1
                                clear H1
                                have H' := Aside0.mk H
                                clear H
                                go_wp2
                                repeat ((with_reducible refine gate_quiet ?_); go_quiet (fail); try go_wp2)
                                go_loopg [11] kj25 (fun kq v11 w' => ∃ (x7_5 : List Int) (x11_5 : Int), v11 = .int .i64 x11_5 ∧ Aside0 (shuttlelaw10_PatternPlaces.l1 kq a0 a1 t132 x7_5 x8_3 t140 x11_5 = some r) ∧ Aside0 (kq ≤ kj25) ∧ Aside0 (Kd.R (Kd.int .i64) 3 w' w.heap.size (fun k_ => some k_ ≠ (v138 : Value).ownBlock ∧ some k_ ≠ (v142 : Value).ownBlock) v134 t132) ∧ Aside0 (Kd.R (Kd.int .i64) 3 w' w.heap.size (fun k_ => some k_ ≠ (v134 : Value).ownBlock ∧ some k_ ≠ (v142 : Value).ownBlock) v138 x7_5) ∧ Aside0 (Kd.R (Kd.int .i64) 3 w' w.heap.size (fun k_ => some k_ ≠ (v134 : Value).ownBlock ∧ some k_ ≠ (v138 : Value).ownBlock) v142 t140) ∧ Aside0 (Below w.heap.size w w'))
                                case atStart => exact ⟨(x7_3), (0), (by first | rfl | (simp; done) | (simp [*]; done)), H', ⟨Nat.le_refl _⟩, ⟨by (with_reducible repeat (first | apply Kd.R_alloc | apply Kd.R_drewN | apply Kd.R_drew)); exact HO_5.out⟩, ⟨by (with_reducible repeat (first | apply Kd.R_alloc | apply Kd.R_drewN | apply Kd.R_drew)); exact HO_7.out⟩, ⟨by (with_reducible repeat (first | apply Kd.R_alloc | apply Kd.R_drewN | apply Kd.R_drew)); exact HO_9.out⟩, ⟨by repeat (first | (with_reducible first | exact HB.out | apply below_alloc | apply pw_below_drewN | apply below_drew1) | exact HB.out)⟩⟩
                                case round =>
                                  clear H'
                                  try clear c1
                                  try clear c2
                                  try clear p2
                                  try clear c3
                                  try clear c5
                                  try clear p6
                                  try clear c9
                                  try clear c9b0
                                  try clear c10
                                  try clear c10b0
                                  try clear c11
                                  try clear c11b0
                                  try clear c12
                                  try clear c13
                                  try clear c13b0
                                  try clear c13b1
                                  try clear c16
                                  try clear c16b0
                                  try clear c16b1
                                  try clear c18
                                  try clear c20
                                  try clear c20b0
                                  try clear c20b1
                                  try clear c21
                                  try clear c21b0
                                  try clear c21b1
                                  try clear c24
                                  try clear c24b0
                                  try clear c28
                                  try clear c28b0
                                  try clear c28b1
                                  try clear c30
                                  try clear p2
                                  try clear p6
                                  obtain ⟨x7_5, x11_5, rfl, HA, HK5, HO_5, HO_7, HO_9, HB⟩ := hrel
                                  cases gk with
                                  | zero => exact absurd HA.out (by simp [shuttlelaw10_PatternPlaces.l1])
                                  | succ k5 =>
                                    have H := HA.out
                                    clear HA
                                    simp only [shuttlelaw10_PatternPlaces.l1] at H
                                    by_cases c31 : x11_5 < a1
                                    · rw [if_pos c31] at H
                                      have c31b0 : decide (x11_5 < a1) = true := decide_eq_true c31
                                      clear c31
                                      by_cases c32 : 0 ≤ x11_5
                                      · rw [if_pos c32] at H
                                        have c32b0 : decide (0 ≤ x11_5) = true := decide_eq_true c32
                                        clear c32
                                        by_cases c33 : x11_5 < (t140.length : Int)
                                        · rw [if_pos c33] at H
                                          have c33b0 : decide (x11_5 < (t140.length : Int)) = true := decide_eq_true c33
                                          clear c33
                                          replace H := Option.bind_eq_some_iff.mp H
                                          obtain ⟨t145, A340, H⟩ := H
                                          replace H : (if (rd t140 x11_5) = (wrap64 ((wrap64 (4 * x11_5)) + t145)) then (if x8_3 = a0 then (if x11_5 < (t132.length : Int) then (if (rd t140 x11_5) = (rd t132 x11_5) then (if 0 ≤ (rd t140 x11_5) then (if (rd t140 x11_5) < (x7_5.length : Int) then (shuttlelaw10_PatternPlaces.l1 k5 a0 a1 t132 (x7_5.set ((rd t140 x11_5) : Int).toNat (wrap64 ((rd x7_5 (rd t140 x11_5)) + 1))) x8_3 t140 (wrap64 (x11_5 + 1))) else (none)) else (none)) else (some false)) else (none)) else (if 0 ≤ (rd t140 x11_5) then (if (rd t140 x11_5) < (x7_5.length : Int) then (shuttlelaw10_PatternPlaces.l1 k5 a0 a1 t132 (x7_5.set ((rd t140 x11_5) : Int).toNat (wrap64 ((rd x7_5 (rd t140 x11_5)) + 1))) x8_3 t140 (wrap64 (x11_5 + 1))) else (none)) else (none))) else (some false)) = some r := H
                                          have A34 := Aside0.mk A340
                                          clear A340
                                          by_cases c35 : (rd t140 x11_5) = (wrap64 ((wrap64 (4 * x11_5)) + t145))
                                          · rw [if_pos c35] at H
                                            have c35b0 : ((rd t140 x11_5) == (wrap64 ((wrap64 (4 * x11_5)) + t145))) = true := beq_iff_eq.mpr c35
                                            have c35b1 : ((rd t140 x11_5) != (wrap64 ((wrap64 (4 * x11_5)) + t145))) = false := bne_eq_false_iff_eq.mpr c35
                                            clear c35
                                            by_cases c36 : x8_3 = a0
                                            · rw [if_pos c36] at H
                                              have c36b0 : (x8_3 == a0) = true := beq_iff_eq.mpr c36
                                              have c36b1 : (x8_3 != a0) = false := bne_eq_false_iff_eq.mpr c36
                                              clear c36
                                              by_cases c37 : x11_5 < (t132.length : Int)
                                              · rw [if_pos c37] at H
                                                have c37b0 : decide (x11_5 < (t132.length : Int)) = true := decide_eq_true c37
                                                clear c37
                                                by_cases c38 : (rd t140 x11_5) = (rd t132 x11_5)
                                                · rw [if_pos c38] at H
                                                  have c38b0 : ((rd t140 x11_5) == (rd t132 x11_5)) = true := beq_iff_eq.mpr c38
                                                  have c38b1 : ((rd t140 x11_5) != (rd t132 x11_5)) = false := bne_eq_false_iff_eq.mpr c38
                                                  clear c38
                                                  by_cases c39 : 0 ≤ (rd t140 x11_5)
                                                  · rw [if_pos c39] at H
                                                    have c39b0 : decide (0 ≤ (rd t140 x11_5)) = true := decide_eq_true c39
                                                    clear c39
                                                    by_cases c40 : (rd t140 x11_5) < (x7_5.length : Int)
                                                    · rw [if_pos c40] at H
                                                      have c40b0 : decide ((rd t140 x11_5) < (x7_5.length : Int)) = true := decide_eq_true c40
                                                      clear c40
                                                      obtain ⟨y150, hy150⟩ : ∃ y_ : List Int, y_ = (x7_5.set ((rd t140 x11_5) : Int).toNat (wrap64 ((rd x7_5 (rd t140 x11_5)) + 1))) := ⟨_, rfl⟩
                                                      replace H : (shuttlelaw10_PatternPlaces.l1 k5 a0 a1 t132 y150 x8_3 t140 (wrap64 (x11_5 + 1))) = some r := by first | (rw [hy150]; with_reducible exact H) | (have H2_ := (Option.bind_some _ _).symm.trans H; rw [hy150]; with_reducible exact H2_) | (have H2_ := (Option.bind_some _ _).symm.trans H; with_reducible exact H2_) | with_reducible exact H | (rw [hy150]; exact H) | exact H
                                                      have Ny150 := Aside0.mk hy150
                                                      clear hy150
                                                      have H' := Aside0.mk H
                                                      clear H
                                                      obtain ⟨Ao42, co42, eo42⟩ := Kd.R_slice HO_9.out
                                                      subst eo42
                                                      have p144 : 0 ≤ (x11_5 : Int) := of_decide_eq_true (by first | (with_reducible assumption) | assumption)
                                                      have q144 : x11_5 < (t140.length : Int) := of_decide_eq_true (by first | (with_reducible assumption) | assumption)
                                                      obtain ⟨ad144, e144, hx144_0⟩ := Kd.at_int (Kd.R_reads' HO_9.out).2.2 x11_5 p144 q144
                                                      cases e144
                                                      replace p144 := eq_true p144
                                                      replace q144 := eq_true q144
                                                      have p146 : 0 ≤ (x11_5 : Int) := of_decide_eq_true (by first | (with_reducible assumption) | assumption)
                                                      have q146 : x11_5 < (t140.length : Int) := of_decide_eq_true (by first | (with_reducible assumption) | assumption)
                                                      obtain ⟨ad146, e146, hx146_0⟩ := Kd.at_int (Kd.R_reads' HO_9.out).2.2 x11_5 p146 q146
                                                      obtain rfl : ad144 = ad146 := (by injection e146)
                                                      replace p146 := eq_true p146
                                                      replace q146 := eq_true q146
                                                      obtain ⟨Ao43, co43, eo43⟩ := Kd.R_slice HO_5.out
                                                      subst eo43
                                                      have p147 : 0 ≤ (x11_5 : Int) := of_decide_eq_true (by first | (with_reducible assumption) | assumption)
                                                      have q147 : x11_5 < (t132.length : Int) := of_decide_eq_true (by first | (with_reducible assumption) | assumption)
                                                      obtain ⟨ad147, e147, hx147_0⟩ := Kd.at_int (Kd.R_reads' HO_5.out).2.2 x11_5 p147 q147
                                                      cases e147
                                                      replace p147 := eq_true p147
                                                      replace q147 := eq_true q147
                                                      have p148 : 0 ≤ (x11_5 : Int) := of_decide_eq_true (by first | (with_reducible assumption) | assumption)
                                                      have q148 : x11_5 < (t140.length : Int) := of_decide_eq_true (by first | (with_reducible assumption) | assumption)
                                                      obtain ⟨ad148, e148, hx148_0⟩ := Kd.at_int (Kd.R_reads' HO_9.out).2.2 x11_5 p148 q148
                                                      obtain rfl : ad144 = ad148 := (by injection e148)
                                                      replace p148 := eq_true p148
                                                      replace q148 := eq_true q148
                                                      obtain ⟨Ao44, co44, eo44⟩ := Kd.R_slice HO_7.out
                                                      subst eo44
                                                      have p149 : 0 ≤ ((rd t140 x11_5) : Int) := of_decide_eq_true (by first | (with_reducible assumption) | assumption)
                                                      have q149 : (rd t140 x11_5) < (x7_5.length : Int) := of_decide_eq_true (by first | (with_reducible assumption) | assumption)
                                                      obtain ⟨ad149, e149, hx149_0⟩ := Kd.at_int (Kd.R_reads' HO_7.out).2.2 (rd t140 x11_5) p149 q149
                                                      cases e149
                                                      replace p149 := eq_true p149
                                                      replace q149 := eq_true q149
                                                      have p41 : 0 ≤ ((rd t140 x11_5) : Int) := of_decide_eq_true (by first | (with_reducible assumption) | assumption)
                                                      have q41 : ((rd t140 x11_5) : Int) < ((x7_5.length : Int) : Int) := of_decide_eq_true (by first | (with_reducible assumption) | assumption)
                                                      obtain ⟨go41, co41, eo41, gb41, gl41, cl41, HG41⟩ := Kd.R_form HO_7.out (by omega)
                                                      (first | cases eo41 | (injection eo41 with ea_ en_ ec_; (first | subst ea_ | (injection ea_ with ea_; subst ea_)); subst ec_; clear en_))
                                                      have GB41 := Aside0.mk gb41
                                                      have GG41 := Aside0.mk HG41
                                                      clear gb41 gl41 HG41
                                                      (first | simp only [add_plain] at hx149_0 | skip)
                                                      obtain ⟨hx41_0, hf41_0⟩ := Kd.R_celln 0 HO_7.out ((rd t140 x11_5) : Int) p41 q41
                                                      replace p41 := eq_true p41
                                                      replace q41 := eq_true q41
                                                      obtain ⟨hy45_, hz45_⟩ := Kd.R_celln 0 HO_7.out ((rd t140 x11_5) : Int) (of_decide_eq_true (by first | (with_reducible assumption) | assumption)) (of_decide_eq_true (by first | (with_reducible assumption) | assumption))
                                                      have HP45 := Kd.R_putg HO_7.out ((rd t140 x11_5) : Int) (wrap64 ((rd x7_5 (rd t140 x11_5)) + 1))
                                                      go_wp2_with (first | (go_at_call 18; (with_reducible refine (shuttleref10_Stream.calls x8_3 x11_5 t145 _ A34.out).mono ?_); rintro e w' ⟨rfl, ⟨nd, rfl⟩⟩; (try first | exact ⟨rfl, _, World.drewN_drewN _ _ _⟩ | exact ⟨rfl, _, Eq.trans (World.drewN_drewN _ _ _) (congrArg (World.drewN _) (Nat.add_assoc _ _ _))⟩)) | ((with_reducible refine gate_store (t := 3) (p := 111) rfl ?_); (try (rw [drewN_self wr]; generalize hq_ : World.drewN wr _ = wr; have n0_ := Aside0.mk (Kd.R_at hq_ HO_5.out); have n1_ := Aside0.mk (Kd.R_at hq_ HO_7.out); have n2_ := Aside0.mk (Kd.R_at hq_ HO_9.out); have n3_ := Aside0.mk (below_at hq_ HB.out); clear hq_ HO_5 HO_7 HO_9 HB; have HO_5 := n0_; have HO_7 := n1_; have HO_9 := n2_; have HB := n3_; clear n0_ n1_ n2_ n3_; (try (obtain ⟨hy45_, hz45_⟩ := Kd.R_celln 0 HO_7.out ((rd t140 x11_5) : Int) (of_decide_eq_true (by first | (with_reducible assumption) | assumption)) (of_decide_eq_true (by first | (with_reducible assumption) | assumption)))); (try (have HP45 := Kd.R_putg HO_7.out ((rd t140 x11_5) : Int) (wrap64 ((rd x7_5 (rd t140 x11_5)) + 1)))))); refine store_event (t := 3) (p := 111) (v := ?vo_w46) (w1 := (wr.setCell ⟨go41, ((rd t140 x11_5) : Int).toNat, none⟩ (.int .i64 (wrap64 ((rd x7_5 (rd t140 x11_5)) + 1))))) ?hg ?ho ?hn ?hr ?_; (case ho => rfl); (case hg => rfl); (case hn => rfl); (case hr => first | (go_simp; done) | (go_simp; rfl)); intro w46 hw; have hg : wr.grownBy w46 (some go41) := (by rw [hw]; exact HP45.2); have hp_ : Kd.R (Kd.int .i64) 3 w46 w.heap.size (fun k_ => some k_ ≠ (.slice (some ad147) t132.length co43 : Value).ownBlock ∧ some k_ ≠ (.slice (some ad144) t140.length co42 : Value).ownBlock) (.slice (some ⟨go41, 0, none⟩) x7_5.length co44) y150 := (by rw [hw, Ny150.out]; exact HP45.1); clear HP45; have n0_ := Aside0.mk (Kd.R_after (v := (.slice (some ⟨go41, 0, none⟩) x7_5.length co44)) (v1 := (.slice (some ⟨go41, 0, none⟩) x7_5.length co44)) (ok := (fun k_ => some k_ ≠ (.slice (some ad144) t140.length co42 : Value).ownBlock)) (by (with_reducible repeat (first | apply Kd.R_alloc | apply Kd.R_drewN | apply Kd.R_drew)); exact Kd.R_mono HO_5.out (fun _ hk => by first | exact ⟨hk.2, hk.1⟩ | ((repeat' constructor) <;> (first | exact hk | exact hk.1 | exact hk.2 | exact hk.1.1 | exact hk.1.2 | exact hk.2.1 | exact hk.2.2 | exact hk.2.2.1 | exact hk.2.2.2 | exact hk.1.2.1 | exact hk.1.2.2 | exact hk.2.1.1 | exact hk.2.1.2 | exact hk.1.1.1 | exact hk.1.1.2)))) hg (.inl rfl)); have n1_ := Aside0.mk (hp_); have n2_ := Aside0.mk (Kd.R_after (v := (.slice (some ⟨go41, 0, none⟩) x7_5.length co44)) (v1 := (.slice (some ⟨go41, 0, none⟩) x7_5.length co44)) (ok := (fun k_ => some k_ ≠ (.slice (some ad147) t132.length co43 : Value).ownBlock)) (by (with_reducible repeat (first | apply Kd.R_alloc | apply Kd.R_drewN | apply Kd.R_drew)); exact HO_9.out) hg (.inl rfl)); have n3_ := Aside0.mk ((by rw [hw]; exact below_set (HB.out) GB41.out : Below w.heap.size w w46)); clear HO_5; clear HO_7; clear HO_9; clear HB; have HO_5 := n0_; have HO_7 := n1_; have HO_9 := n2_; have HB := n3_; clear n0_ n1_ n2_ n3_; clear hg hw hp_))
                                                      repeat ((with_reducible refine gate_quiet ?_); go_quiet (first | (go_at_call 18; (with_reducible refine (shuttleref10_Stream.calls x8_3 x11_5 t145 _ A34.out).mono ?_); rintro e w' ⟨rfl, ⟨nd, rfl⟩⟩; (try first | exact ⟨rfl, _, World.drewN_drewN _ _ _⟩ | exact ⟨rfl, _, Eq.trans (World.drewN_drewN _ _ _) (congrArg (World.drewN _) (Nat.add_assoc _ _ _))⟩)) | ((with_reducible refine gate_store (t := 3) (p := 111) rfl ?_); (try (rw [drewN_self wr]; generalize hq_ : World.drewN wr _ = wr; have n0_ := Aside0.mk (Kd.R_at hq_ HO_5.out); have n1_ := Aside0.mk (Kd.R_at hq_ HO_7.out); have n2_ := Aside0.mk (Kd.R_at hq_ HO_9.out); have n3_ := Aside0.mk (below_at hq_ HB.out); clear hq_ HO_5 HO_7 HO_9 HB; have HO_5 := n0_; have HO_7 := n1_; have HO_9 := n2_; have HB := n3_; clear n0_ n1_ n2_ n3_; (try (obtain ⟨hy45_, hz45_⟩ := Kd.R_celln 0 HO_7.out ((rd t140 x11_5) : Int) (of_decide_eq_true (by first | (with_reducible assumption) | assumption)) (of_decide_eq_true (by first | (with_reducible assumption) | assumption)))); (try (have HP45 := Kd.R_putg HO_7.out ((rd t140 x11_5) : Int) (wrap64 ((rd x7_5 (rd t140 x11_5)) + 1)))))); refine store_event (t := 3) (p := 111) (v := ?vo_w46) (w1 := (wr.setCell ⟨go41, ((rd t140 x11_5) : Int).toNat, none⟩ (.int .i64 (wrap64 ((rd x7_5 (rd t140 x11_5)) + 1))))) ?hg ?ho ?hn ?hr ?_; (case ho => rfl); (case hg => rfl); (case hn => rfl); (case hr => first | (go_simp; done) | (go_simp; rfl)); intro w46 hw; have hg : wr.grownBy w46 (some go41) := (by rw [hw]; exact HP45.2); have hp_ : Kd.R (Kd.int .i64) 3 w46 w.heap.size (fun k_ => some k_ ≠ (.slice (some ad147) t132.length co43 : Value).ownBlock ∧ some k_ ≠ (.slice (some ad144) t140.length co42 : Value).ownBlock) (.slice (some ⟨go41, 0, none⟩) x7_5.length co44) y150 := (by rw [hw, Ny150.out]; exact HP45.1); clear HP45; have n0_ := Aside0.mk (Kd.R_after (v := (.slice (some ⟨go41, 0, none⟩) x7_5.length co44)) (v1 := (.slice (some ⟨go41, 0, none⟩) x7_5.length co44)) (ok := (fun k_ => some k_ ≠ (.slice (some ad144) t140.length co42 : Value).ownBlock)) (by (with_reducible repeat (first | apply Kd.R_alloc | apply Kd.R_drewN | apply Kd.R_drew)); exact Kd.R_mono HO_5.out (fun _ hk => by first | exact ⟨hk.2, hk.1⟩ | ((repeat' constructor) <;> (first | exact hk | exact hk.1 | exact hk.2 | exact hk.1.1 | exact hk.1.2 | exact hk.2.1 | exact hk.2.2 | exact hk.2.2.1 | exact hk.2.2.2 | exact hk.1.2.1 | exact hk.1.2.2 | exact hk.2.1.1 | exact hk.2.1.2 | exact hk.1.1.1 | exact hk.1.1.2)))) hg (.inl rfl)); have n1_ := Aside0.mk (hp_); have n2_ := Aside0.mk (Kd.R_after (v := (.slice (some ⟨go41, 0, none⟩) x7_5.length co44)) (v1 := (.slice (some ⟨go41, 0, none⟩) x7_5.length co44)) (ok := (fun k_ => some k_ ≠ (.slice (some ad147) t132.length co43 : Value).ownBlock)) (by (with_reducible repeat (first | apply Kd.R_alloc | apply Kd.R_drewN | apply Kd.R_drew)); exact HO_9.out) hg (.inl rfl)); have n3_ := Aside0.mk ((by rw [hw]; exact below_set (HB.out) GB41.out : Below w.heap.size w w46)); clear HO_5; clear HO_7; clear HO_9; clear HB; have HO_5 := n0_; have HO_7 := n1_; have HO_9 := n2_; have HB := n3_; clear n0_ n1_ n2_ n3_; clear hg hw hp_)); try go_wp2_with (first | (go_at_call 18; (with_reducible refine (shuttleref10_Stream.calls x8_3 x11_5 t145 _ A34.out).mono ?_); rintro e w' ⟨rfl, ⟨nd, rfl⟩⟩; (try first | exact ⟨rfl, _, World.drewN_drewN _ _ _⟩ | exact ⟨rfl, _, Eq.trans (World.drewN_drewN _ _ _) (congrArg (World.drewN _) (Nat.add_assoc _ _ _))⟩)) | ((with_reducible refine gate_store (t := 3) (p := 111) rfl ?_); (try (rw [drewN_self wr]; generalize hq_ : World.drewN wr _ = wr; have n0_ := Aside0.mk (Kd.R_at hq_ HO_5.out); have n1_ := Aside0.mk (Kd.R_at hq_ HO_7.out); have n2_ := Aside0.mk (Kd.R_at hq_ HO_9.out); have n3_ := Aside0.mk (below_at hq_ HB.out); clear hq_ HO_5 HO_7 HO_9 HB; have HO_5 := n0_; have HO_7 := n1_; have HO_9 := n2_; have HB := n3_; clear n0_ n1_ n2_ n3_; (try (obtain ⟨hy45_, hz45_⟩ := Kd.R_celln 0 HO_7.out ((rd t140 x11_5) : Int) (of_decide_eq_true (by first | (with_reducible assumption) | assumption)) (of_decide_eq_true (by first | (with_reducible assumption) | assumption)))); (try (have HP45 := Kd.R_putg HO_7.out ((rd t140 x11_5) : Int) (wrap64 ((rd x7_5 (rd t140 x11_5)) + 1)))))); refine store_event (t := 3) (p := 111) (v := ?vo_w46) (w1 := (wr.setCell ⟨go41, ((rd t140 x11_5) : Int).toNat, none⟩ (.int .i64 (wrap64 ((rd x7_5 (rd t140 x11_5)) + 1))))) ?hg ?ho ?hn ?hr ?_; (case ho => rfl); (case hg => rfl); (case hn => rfl); (case hr => first | (go_simp; done) | (go_simp; rfl)); intro w46 hw; have hg : wr.grownBy w46 (some go41) := (by rw [hw]; exact HP45.2); have hp_ : Kd.R (Kd.int .i64) 3 w46 w.heap.size (fun k_ => some k_ ≠ (.slice (some ad147) t132.length co43 : Value).ownBlock ∧ some k_ ≠ (.slice (some ad144) t140.length co42 : Value).ownBlock) (.slice (some ⟨go41, 0, none⟩) x7_5.length co44) y150 := (by rw [hw, Ny150.out]; exact HP45.1); clear HP45; have n0_ := Aside0.mk (Kd.R_after (v := (.slice (some ⟨go41, 0, none⟩) x7_5.length co44)) (v1 := (.slice (some ⟨go41, 0, none⟩) x7_5.length co44)) (ok := (fun k_ => some k_ ≠ (.slice (some ad144) t140.length co42 : Value).ownBlock)) (by (with_reducible repeat (first | apply Kd.R_alloc | apply Kd.R_drewN | apply Kd.R_drew)); exact Kd.R_mono HO_5.out (fun _ hk => by first | exact ⟨hk.2, hk.1⟩ | ((repeat' constructor) <;> (first | exact hk | exact hk.1 | exact hk.2 | exact hk.1.1 | exact hk.1.2 | exact hk.2.1 | exact hk.2.2 | exact hk.2.2.1 | exact hk.2.2.2 | exact hk.1.2.1 | exact hk.1.2.2 | exact hk.2.1.1 | exact hk.2.1.2 | exact hk.1.1.1 | exact hk.1.1.2)))) hg (.inl rfl)); have n1_ := Aside0.mk (hp_); have n2_ := Aside0.mk (Kd.R_after (v := (.slice (some ⟨go41, 0, none⟩) x7_5.length co44)) (v1 := (.slice (some ⟨go41, 0, none⟩) x7_5.length co44)) (ok := (fun k_ => some k_ ≠ (.slice (some ad147) t132.length co43 : Value).ownBlock)) (by (with_reducible repeat (first | apply Kd.R_alloc | apply Kd.R_drewN | apply Kd.R_drew)); exact HO_9.out) hg (.inl rfl)); have n3_ := Aside0.mk ((by rw [hw]; exact below_set (HB.out) GB41.out : Below w.heap.size w w46)); clear HO_5; clear HO_7; clear HO_9; clear HB; have HO_5 := n0_; have HO_7 := n1_; have HO_9 := n2_; have HB := n3_; clear n0_ n1_ n2_ n3_; clear hg hw hp_)))
                                                      go_roundg k5
                                                      case measure => have := HJ5.out; have := HJ14.out; have := HK3.out; have := HJ25.out; have := HK5.out; omega
                                                      case rel => exact ⟨(y150), (wrap64 (x11_5 + 1)), (by first | rfl | (simp; done) | (simp [*]; done)), H', ⟨by have := HJ5.out; have := HJ14.out; have := HK3.out; have := HJ25.out; have := HK5.out; omega⟩, ⟨by (with_reducible repeat (first | apply Kd.R_alloc | apply Kd.R_drewN | apply Kd.R_drew)); exact Kd.R_mono HO_5.out (fun _ hk => by first | exact ⟨hk.2, hk.1⟩ | ((repeat' constructor) <;> (first | exact hk | exact hk.1 | exact hk.2 | exact hk.1.1 | exact hk.1.2 | exact hk.2.1 | exact hk.2.2 | exact hk.2.2.1 | exact hk.2.2.2 | exact hk.1.2.1 | exact hk.1.2.2 | exact hk.2.1.1 | exact hk.2.1.2 | exact hk.1.1.1 | exact hk.1.1.2)))⟩, ⟨by (with_reducible repeat (first | apply Kd.R_alloc | apply Kd.R_drewN | apply Kd.R_drew)); exact HO_7.out⟩, ⟨by (with_reducible repeat (first | apply Kd.R_alloc | apply Kd.R_drewN | apply Kd.R_drew)); exact HO_9.out⟩, ⟨by repeat (first | (with_reducible first | exact HB.out | apply below_alloc | apply pw_below_drewN | apply below_drew1) | exact HB.out)⟩⟩
                                                    · rw [if_neg c40] at H
                                                      exact absurd H (by simp)
                                                  · rw [if_neg c39] at H
                                                    exact absurd H (by simp)
                                                · rw [if_neg c38] at H
                                                  have c38b0 : ((rd t140 x11_5) == (rd t132 x11_5)) = false := beq_eq_false_iff_ne.mpr c38
                                                  have c38b1 : ((rd t140 x11_5) != (rd t132 x11_5)) = true := bne_iff_ne.mpr c38
                                                  obtain rfl := Option.some.inj H
                                                  obtain ⟨Ao47, co47, eo47⟩ := Kd.R_slice HO_9.out
                                                  subst eo47
                                                  have p144 : 0 ≤ (x11_5 : Int) := of_decide_eq_true (by first | (with_reducible assumption) | assumption)
                                                  have q144 : x11_5 < (t140.length : Int) := of_decide_eq_true (by first | (with_reducible assumption) | assumption)
                                                  obtain ⟨ad144, e144, hx144_0⟩ := Kd.at_int (Kd.R_reads' HO_9.out).2.2 x11_5 p144 q144
                                                  cases e144
                                                  replace p144 := eq_true p144
                                                  replace q144 := eq_true q144
                                                  have p146 : 0 ≤ (x11_5 : Int) := of_decide_eq_true (by first | (with_reducible assumption) | assumption)
                                                  have q146 : x11_5 < (t140.length : Int) := of_decide_eq_true (by first | (with_reducible assumption) | assumption)
                                                  obtain ⟨ad146, e146, hx146_0⟩ := Kd.at_int (Kd.R_reads' HO_9.out).2.2 x11_5 p146 q146
                                                  obtain rfl : ad144 = ad146 := (by injection e146)
                                                  replace p146 := eq_true p146
                                                  replace q146 := eq_true q146
                                                  obtain ⟨Ao48, co48, eo48⟩ := Kd.R_slice HO_5.out
                                                  subst eo48
                                                  have p147 : 0 ≤ (x11_5 : Int) := of_decide_eq_true (by first | (with_reducible assumption) | assumption)
                                                  have q147 : x11_5 < (t132.length : Int) := of_decide_eq_true (by first | (with_reducible assumption) | assumption)
                                                  obtain ⟨ad147, e147, hx147_0⟩ := Kd.at_int (Kd.R_reads' HO_5.out).2.2 x11_5 p147 q147
                                                  cases e147
                                                  replace p147 := eq_true p147
                                                  replace q147 := eq_true q147
                                                  go_wp2_with (first | (go_at_call 18; (with_reducible refine (shuttleref10_Stream.calls x8_3 x11_5 t145 _ A34.out).mono ?_); rintro e w' ⟨rfl, ⟨nd, rfl⟩⟩; (try first | exact ⟨rfl, _, World.drewN_drewN _ _ _⟩ | exact ⟨rfl, _, Eq.trans (World.drewN_drewN _ _ _) (congrArg (World.drewN _) (Nat.add_assoc _ _ _))⟩)))
                                                  repeat ((with_reducible refine gate_quiet ?_); go_quiet (first | (go_at_call 18; (with_reducible refine (shuttleref10_Stream.calls x8_3 x11_5 t145 _ A34.out).mono ?_); rintro e w' ⟨rfl, ⟨nd, rfl⟩⟩; (try first | exact ⟨rfl, _, World.drewN_drewN _ _ _⟩ | exact ⟨rfl, _, Eq.trans (World.drewN_drewN _ _ _) (congrArg (World.drewN _) (Nat.add_assoc _ _ _))⟩))); try go_wp2_with (first | (go_at_call 18; (with_reducible refine (shuttleref10_Stream.calls x8_3 x11_5 t145 _ A34.out).mono ?_); rintro e w' ⟨rfl, ⟨nd, rfl⟩⟩; (try first | exact ⟨rfl, _, World.drewN_drewN _ _ _⟩ | exact ⟨rfl, _, Eq.trans (World.drewN_drewN _ _ _) (congrArg (World.drewN _) (Nat.add_assoc _ _ _))⟩))))
                                                  go_ret
                                                  exact ⟨by first | rfl | (simp [errW_none, errW_some] <;> rfl) | (simp only [← hji19]; first | rfl | (simp [errW_none, errW_some] <;> rfl)) | (simp [*, errW_none, errW_some] <;> rfl), by repeat (first | (with_reducible first | exact HB.out | apply below_alloc | apply pw_below_drewN | apply below_drew1) | exact HB.out)⟩
                                              · rw [if_neg c37] at H
                                                exact absurd H (by simp)
                                            · rw [if_neg c36] at H
                                              have c36b0 : (x8_3 == a0) = false := beq_eq_false_iff_ne.mpr c36
                                              have c36b1 : (x8_3 != a0) = true := bne_iff_ne.mpr c36
                                              by_cases c49 : 0 ≤ (rd t140 x11_5)
                                              · rw [if_pos c49] at H
                                                have c49b0 : decide (0 ≤ (rd t140 x11_5)) = true := decide_eq_true c49
                                                clear c49
                                                by_cases c50 : (rd t140 x11_5) < (x7_5.length : Int)
                                                · rw [if_pos c50] at H
                                                  have c50b0 : decide ((rd t140 x11_5) < (x7_5.length : Int)) = true := decide_eq_true c50
                                                  clear c50
                                                  obtain ⟨y153, hy153⟩ : ∃ y_ : List Int, y_ = (x7_5.set ((rd t140 x11_5) : Int).toNat (wrap64 ((rd x7_5 (rd t140 x11_5)) + 1))) := ⟨_, rfl⟩
                                                  replace H : (shuttlelaw10_PatternPlaces.l1 k5 a0 a1 t132 y153 x8_3 t140 (wrap64 (x11_5 + 1))) = some r := by first | (rw [hy153]; with_reducible exact H) | (have H2_ := (Option.bind_some _ _).symm.trans H; rw [hy153]; with_reducible exact H2_) | (have H2_ := (Option.bind_some _ _).symm.trans H; with_reducible exact H2_) | with_reducible exact H | (rw [hy153]; exact H) | exact H
                                                  have Ny153 := Aside0.mk hy153
                                                  clear hy153
                                                  have H' := Aside0.mk H
                                                  clear H
                                                  obtain ⟨Ao52, co52, eo52⟩ := Kd.R_slice HO_9.out
                                                  subst eo52
                                                  have p144 : 0 ≤ (x11_5 : Int) := of_decide_eq_true (by first | (with_reducible assumption) | assumption)
                                                  have q144 : x11_5 < (t140.length : Int) := of_decide_eq_true (by first | (with_reducible assumption) | assumption)
                                                  obtain ⟨ad144, e144, hx144_0⟩ := Kd.at_int (Kd.R_reads' HO_9.out).2.2 x11_5 p144 q144
                                                  cases e144
                                                  replace p144 := eq_true p144
                                                  replace q144 := eq_true q144
                                                  have p151 : 0 ≤ (x11_5 : Int) := of_decide_eq_true (by first | (with_reducible assumption) | assumption)
                                                  have q151 : x11_5 < (t140.length : Int) := of_decide_eq_true (by first | (with_reducible assumption) | assumption)
                                                  obtain ⟨ad151, e151, hx151_0⟩ := Kd.at_int (Kd.R_reads' HO_9.out).2.2 x11_5 p151 q151
                                                  obtain rfl : ad144 = ad151 := (by injection e151)
                                                  replace p151 := eq_true p151
                                                  replace q151 := eq_true q151
                                                  obtain ⟨Ao53, co53, eo53⟩ := Kd.R_slice HO_7.out
                                                  subst eo53
                                                  have p152 : 0 ≤ ((rd t140 x11_5) : Int) := of_decide_eq_true (by first | (with_reducible assumption) | assumption)
                                                  have q152 : (rd t140 x11_5) < (x7_5.length : Int) := of_decide_eq_true (by first | (with_reducible assumption) | assumption)
                                                  obtain ⟨ad152, e152, hx152_0⟩ := Kd.at_int (Kd.R_reads' HO_7.out).2.2 (rd t140 x11_5) p152 q152
                                                  cases e152
                                                  replace p152 := eq_true p152
                                                  replace q152 := eq_true q152
                                                  have p51 : 0 ≤ ((rd t140 x11_5) : Int) := of_decide_eq_true (by first | (with_reducible assumption) | assumption)
                                                  have q51 : ((rd t140 x11_5) : Int) < ((x7_5.length : Int) : Int) := of_decide_eq_true (by first | (with_reducible assumption) | assumption)
                                                  obtain ⟨go51, co51, eo51, gb51, gl51, cl51, HG51⟩ := Kd.R_form HO_7.out (by omega)
                                                  (first | cases eo51 | (injection eo51 with ea_ en_ ec_; (first | subst ea_ | (injection ea_ with ea_; subst ea_)); subst ec_; clear en_))
                                                  have GB51 := Aside0.mk gb51
                                                  have GG51 := Aside0.mk HG51
                                                  clear gb51 gl51 HG51
                                                  (first | simp only [add_plain] at hx152_0 | skip)
                                                  obtain ⟨hx51_0, hf51_0⟩ := Kd.R_celln 0 HO_7.out ((rd t140 x11_5) : Int) p51 q51
                                                  replace p51 := eq_true p51
                                                  replace q51 := eq_true q51
                                                  obtain ⟨hy54_, hz54_⟩ := Kd.R_celln 0 HO_7.out ((rd t140 x11_5) : Int) (of_decide_eq_true (by first | (with_reducible assumption) | assumption)) (of_decide_eq_true (by first | (with_reducible assumption) | assumption))
                                                  have HP54 := Kd.R_putg HO_7.out ((rd t140 x11_5) : Int) (wrap64 ((rd x7_5 (rd t140 x11_5)) + 1))
                                                  go_wp2_with (first | (go_at_call 18; (with_reducible refine (shuttleref10_Stream.calls x8_3 x11_5 t145 _ A34.out).mono ?_); rintro e w' ⟨rfl, ⟨nd, rfl⟩⟩; (try first | exact ⟨rfl, _, World.drewN_drewN _ _ _⟩ | exact ⟨rfl, _, Eq.trans (World.drewN_drewN _ _ _) (congrArg (World.drewN _) (Nat.add_assoc _ _ _))⟩)) | ((with_reducible refine gate_store (t := 3) (p := 111) rfl ?_); (try (rw [drewN_self wr]; generalize hq_ : World.drewN wr _ = wr; have n0_ := Aside0.mk (Kd.R_at hq_ HO_5.out); have n1_ := Aside0.mk (Kd.R_at hq_ HO_7.out); have n2_ := Aside0.mk (Kd.R_at hq_ HO_9.out); have n3_ := Aside0.mk (below_at hq_ HB.out); clear hq_ HO_5 HO_7 HO_9 HB; have HO_5 := n0_; have HO_7 := n1_; have HO_9 := n2_; have HB := n3_; clear n0_ n1_ n2_ n3_; (try (obtain ⟨hy54_, hz54_⟩ := Kd.R_celln 0 HO_7.out ((rd t140 x11_5) : Int) (of_decide_eq_true (by first | (with_reducible assumption) | assumption)) (of_decide_eq_true (by first | (with_reducible assumption) | assumption)))); (try (have HP54 := Kd.R_putg HO_7.out ((rd t140 x11_5) : Int) (wrap64 ((rd x7_5 (rd t140 x11_5)) + 1)))))); refine store_event (t := 3) (p := 111) (v := ?vo_w55) (w1 := (wr.setCell ⟨go51, ((rd t140 x11_5) : Int).toNat, none⟩ (.int .i64 (wrap64 ((rd x7_5 (rd t140 x11_5)) + 1))))) ?hg ?ho ?hn ?hr ?_; (case ho => rfl); (case hg => rfl); (case hn => rfl); (case hr => first | (go_simp; done) | (go_simp; rfl)); intro w55 hw; have hg : wr.grownBy w55 (some go51) := (by rw [hw]; exact HP54.2); have hp_ : Kd.R (Kd.int .i64) 3 w55 w.heap.size (fun k_ => some k_ ≠ (v134 : Value).ownBlock ∧ some k_ ≠ (.slice (some ad144) t140.length co52 : Value).ownBlock) (.slice (some ⟨go51, 0, none⟩) x7_5.length co53) y153 := (by rw [hw, Ny153.out]; exact HP54.1); clear HP54; have n0_ := Aside0.mk (Kd.R_after (v := (.slice (some ⟨go51, 0, none⟩) x7_5.length co53)) (v1 := (.slice (some ⟨go51, 0, none⟩) x7_5.length co53)) (ok := (fun k_ => some k_ ≠ (.slice (some ad144) t140.length co52 : Value).ownBlock)) (by (with_reducible repeat (first | apply Kd.R_alloc | apply Kd.R_drewN | apply Kd.R_drew)); exact Kd.R_mono HO_5.out (fun _ hk => by first | exact ⟨hk.2, hk.1⟩ | ((repeat' constructor) <;> (first | exact hk | exact hk.1 | exact hk.2 | exact hk.1.1 | exact hk.1.2 | exact hk.2.1 | exact hk.2.2 | exact hk.2.2.1 | exact hk.2.2.2 | exact hk.1.2.1 | exact hk.1.2.2 | exact hk.2.1.1 | exact hk.2.1.2 | exact hk.1.1.1 | exact hk.1.1.2)))) hg (.inl rfl)); have n1_ := Aside0.mk (hp_); have n2_ := Aside0.mk (Kd.R_after (v := (.slice (some ⟨go51, 0, none⟩) x7_5.length co53)) (v1 := (.slice (some ⟨go51, 0, none⟩) x7_5.length co53)) (ok := (fun k_ => some k_ ≠ (v134 : Value).ownBlock)) (by (with_reducible repeat (first | apply Kd.R_alloc | apply Kd.R_drewN | apply Kd.R_drew)); exact HO_9.out) hg (.inl rfl)); have n3_ := Aside0.mk ((by rw [hw]; exact below_set (HB.out) GB51.out : Below w.heap.size w w55)); clear HO_5; clear HO_7; clear HO_9; clear HB; have HO_5 := n0_; have HO_7 := n1_; have HO_9 := n2_; have HB := n3_; clear n0_ n1_ n2_ n3_; clear hg hw hp_))
                                                  repeat ((with_reducible refine gate_quiet ?_); go_quiet (first | (go_at_call 18; (with_reducible refine (shuttleref10_Stream.calls x8_3 x11_5 t145 _ A34.out).mono ?_); rintro e w' ⟨rfl, ⟨nd, rfl⟩⟩; (try first | exact ⟨rfl, _, World.drewN_drewN _ _ _⟩ | exact ⟨rfl, _, Eq.trans (World.drewN_drewN _ _ _) (congrArg (World.drewN _) (Nat.add_assoc _ _ _))⟩)) | ((with_reducible refine gate_store (t := 3) (p := 111) rfl ?_); (try (rw [drewN_self wr]; generalize hq_ : World.drewN wr _ = wr; have n0_ := Aside0.mk (Kd.R_at hq_ HO_5.out); have n1_ := Aside0.mk (Kd.R_at hq_ HO_7.out); have n2_ := Aside0.mk (Kd.R_at hq_ HO_9.out); have n3_ := Aside0.mk (below_at hq_ HB.out); clear hq_ HO_5 HO_7 HO_9 HB; have HO_5 := n0_; have HO_7 := n1_; have HO_9 := n2_; have HB := n3_; clear n0_ n1_ n2_ n3_; (try (obtain ⟨hy54_, hz54_⟩ := Kd.R_celln 0 HO_7.out ((rd t140 x11_5) : Int) (of_decide_eq_true (by first | (with_reducible assumption) | assumption)) (of_decide_eq_true (by first | (with_reducible assumption) | assumption)))); (try (have HP54 := Kd.R_putg HO_7.out ((rd t140 x11_5) : Int) (wrap64 ((rd x7_5 (rd t140 x11_5)) + 1)))))); refine store_event (t := 3) (p := 111) (v := ?vo_w55) (w1 := (wr.setCell ⟨go51, ((rd t140 x11_5) : Int).toNat, none⟩ (.int .i64 (wrap64 ((rd x7_5 (rd t140 x11_5)) + 1))))) ?hg ?ho ?hn ?hr ?_; (case ho => rfl); (case hg => rfl); (case hn => rfl); (case hr => first | (go_simp; done) | (go_simp; rfl)); intro w55 hw; have hg : wr.grownBy w55 (some go51) := (by rw [hw]; exact HP54.2); have hp_ : Kd.R (Kd.int .i64) 3 w55 w.heap.size (fun k_ => some k_ ≠ (v134 : Value).ownBlock ∧ some k_ ≠ (.slice (some ad144) t140.length co52 : Value).ownBlock) (.slice (some ⟨go51, 0, none⟩) x7_5.length co53) y153 := (by rw [hw, Ny153.out]; exact HP54.1); clear HP54; have n0_ := Aside0.mk (Kd.R_after (v := (.slice (some ⟨go51, 0, none⟩) x7_5.length co53)) (v1 := (.slice (some ⟨go51, 0, none⟩) x7_5.length co53)) (ok := (fun k_ => some k_ ≠ (.slice (some ad144) t140.length co52 : Value).ownBlock)) (by (with_reducible repeat (first | apply Kd.R_alloc | apply Kd.R_drewN | apply Kd.R_drew)); exact Kd.R_mono HO_5.out (fun _ hk => by first | exact ⟨hk.2, hk.1⟩ | ((repeat' constructor) <;> (first | exact hk | exact hk.1 | exact hk.2 | exact hk.1.1 | exact hk.1.2 | exact hk.2.1 | exact hk.2.2 | exact hk.2.2.1 | exact hk.2.2.2 | exact hk.1.2.1 | exact hk.1.2.2 | exact hk.2.1.1 | exact hk.2.1.2 | exact hk.1.1.1 | exact hk.1.1.2)))) hg (.inl rfl)); have n1_ := Aside0.mk (hp_); have n2_ := Aside0.mk (Kd.R_after (v := (.slice (some ⟨go51, 0, none⟩) x7_5.length co53)) (v1 := (.slice (some ⟨go51, 0, none⟩) x7_5.length co53)) (ok := (fun k_ => some k_ ≠ (v134 : Value).ownBlock)) (by (with_reducible repeat (first | apply Kd.R_alloc | apply Kd.R_drewN | apply Kd.R_drew)); exact HO_9.out) hg (.inl rfl)); have n3_ := Aside0.mk ((by rw [hw]; exact below_set (HB.out) GB51.out : Below w.heap.size w w55)); clear HO_5; clear HO_7; clear HO_9; clear HB; have HO_5 := n0_; have HO_7 := n1_; have HO_9 := n2_; have HB := n3_; clear n0_ n1_ n2_ n3_; clear hg hw hp_)); try go_wp2_with (first | (go_at_call 18; (with_reducible refine (shuttleref10_Stream.calls x8_3 x11_5 t145 _ A34.out).mono ?_); rintro e w' ⟨rfl, ⟨nd, rfl⟩⟩; (try first | exact ⟨rfl, _, World.drewN_drewN _ _ _⟩ | exact ⟨rfl, _, Eq.trans (World.drewN_drewN _ _ _) (congrArg (World.drewN _) (Nat.add_assoc _ _ _))⟩)) | ((with_reducible refine gate_store (t := 3) (p := 111) rfl ?_); (try (rw [drewN_self wr]; generalize hq_ : World.drewN wr _ = wr; have n0_ := Aside0.mk (Kd.R_at hq_ HO_5.out); have n1_ := Aside0.mk (Kd.R_at hq_ HO_7.out); have n2_ := Aside0.mk (Kd.R_at hq_ HO_9.out); have n3_ := Aside0.mk (below_at hq_ HB.out); clear hq_ HO_5 HO_7 HO_9 HB; have HO_5 := n0_; have HO_7 := n1_; have HO_9 := n2_; have HB := n3_; clear n0_ n1_ n2_ n3_; (try (obtain ⟨hy54_, hz54_⟩ := Kd.R_celln 0 HO_7.out ((rd t140 x11_5) : Int) (of_decide_eq_true (by first | (with_reducible assumption) | assumption)) (of_decide_eq_true (by first | (with_reducible assumption) | assumption)))); (try (have HP54 := Kd.R_putg HO_7.out ((rd t140 x11_5) : Int) (wrap64 ((rd x7_5 (rd t140 x11_5)) + 1)))))); refine store_event (t := 3) (p := 111) (v := ?vo_w55) (w1 := (wr.setCell ⟨go51, ((rd t140 x11_5) : Int).toNat, none⟩ (.int .i64 (wrap64 ((rd x7_5 (rd t140 x11_5)) + 1))))) ?hg ?ho ?hn ?hr ?_; (case ho => rfl); (case hg => rfl); (case hn => rfl); (case hr => first | (go_simp; done) | (go_simp; rfl)); intro w55 hw; have hg : wr.grownBy w55 (some go51) := (by rw [hw]; exact HP54.2); have hp_ : Kd.R (Kd.int .i64) 3 w55 w.heap.size (fun k_ => some k_ ≠ (v134 : Value).ownBlock ∧ some k_ ≠ (.slice (some ad144) t140.length co52 : Value).ownBlock) (.slice (some ⟨go51, 0, none⟩) x7_5.length co53) y153 := (by rw [hw, Ny153.out]; exact HP54.1); clear HP54; have n0_ := Aside0.mk (Kd.R_after (v := (.slice (some ⟨go51, 0, none⟩) x7_5.length co53)) (v1 := (.slice (some ⟨go51, 0, none⟩) x7_5.length co53)) (ok := (fun k_ => some k_ ≠ (.slice (some ad144) t140.length co52 : Value).ownBlock)) (by (with_reducible repeat (first | apply Kd.R_alloc | apply Kd.R_drewN | apply Kd.R_drew)); exact Kd.R_mono HO_5.out (fun _ hk => by first | exact ⟨hk.2, hk.1⟩ | ((repeat' constructor) <;> (first | exact hk | exact hk.1 | exact hk.2 | exact hk.1.1 | exact hk.1.2 | exact hk.2.1 | exact hk.2.2 | exact hk.2.2.1 | exact hk.2.2.2 | exact hk.1.2.1 | exact hk.1.2.2 | exact hk.2.1.1 | exact hk.2.1.2 | exact hk.1.1.1 | exact hk.1.1.2)))) hg (.inl rfl)); have n1_ := Aside0.mk (hp_); have n2_ := Aside0.mk (Kd.R_after (v := (.slice (some ⟨go51, 0, none⟩) x7_5.length co53)) (v1 := (.slice (some ⟨go51, 0, none⟩) x7_5.length co53)) (ok := (fun k_ => some k_ ≠ (v134 : Value).ownBlock)) (by (with_reducible repeat (first | apply Kd.R_alloc | apply Kd.R_drewN | apply Kd.R_drew)); exact HO_9.out) hg (.inl rfl)); have n3_ := Aside0.mk ((by rw [hw]; exact below_set (HB.out) GB51.out : Below w.heap.size w w55)); clear HO_5; clear HO_7; clear HO_9; clear HB; have HO_5 := n0_; have HO_7 := n1_; have HO_9 := n2_; have HB := n3_; clear n0_ n1_ n2_ n3_; clear hg hw hp_)))
                                                  go_roundg k5
                                                  case measure => have := HJ5.out; have := HJ14.out; have := HK3.out; have := HJ25.out; have := HK5.out; omega
                                                  case rel => exact ⟨(y153), (wrap64 (x11_5 + 1)), (by first | rfl | (simp; done) | (simp [*]; done)), H', ⟨by have := HJ5.out; have := HJ14.out; have := HK3.out; have := HJ25.out; have := HK5.out; omega⟩, ⟨by (with_reducible repeat (first | apply Kd.R_alloc | apply Kd.R_drewN | apply Kd.R_drew)); exact Kd.R_mono HO_5.out (fun _ hk => by first | exact ⟨hk.2, hk.1⟩ | ((repeat' constructor) <;> (first | exact hk | exact hk.1 | exact hk.2 | exact hk.1.1 | exact hk.1.2 | exact hk.2.1 | exact hk.2.2 | exact hk.2.2.1 | exact hk.2.2.2 | exact hk.1.2.1 | exact hk.1.2.2 | exact hk.2.1.1 | exact hk.2.1.2 | exact hk.1.1.1 | exact hk.1.1.2)))⟩, ⟨by (with_reducible repeat (first | apply Kd.R_alloc | apply Kd.R_drewN | apply Kd.R_drew)); exact HO_7.out⟩, ⟨by (with_reducible repeat (first | apply Kd.R_alloc | apply Kd.R_drewN | apply Kd.R_drew)); exact HO_9.out⟩, ⟨by repeat (first | (with_reducible first | exact HB.out | apply below_alloc | apply pw_below_drewN | apply below_drew1) | exact HB.out)⟩⟩
                                                · rw [if_neg c50] at H
                                                  exact absurd H (by simp)
                                              · rw [if_neg c49] at H
                                                exact absurd H (by simp)
                                          · rw [if_neg c35] at H
                                            have c35b0 : ((rd t140 x11_5) == (wrap64 ((wrap64 (4 * x11_5)) + t145))) = false := beq_eq_false_iff_ne.mpr c35
                                            have c35b1 : ((rd t140 x11_5) != (wrap64 ((wrap64 (4 * x11_5)) + t145))) = true := bne_iff_ne.mpr c35
                                            obtain rfl := Option.some.inj H
                                            obtain ⟨Ao56, co56, eo56⟩ := Kd.R_slice HO_9.out
                                            subst eo56
                                            have p144 : 0 ≤ (x11_5 : Int) := of_decide_eq_true (by first | (with_reducible assumption) | assumption)
                                            have q144 : x11_5 < (t140.length : Int) := of_decide_eq_true (by first | (with_reducible assumption) | assumption)
                                            obtain ⟨ad144, e144, hx144_0⟩ := Kd.at_int (Kd.R_reads' HO_9.out).2.2 x11_5 p144 q144
                                            cases e144
                                            replace p144 := eq_true p144
                                            replace q144 := eq_true q144
                                            go_wp2_with (first | (go_at_call 18; (with_reducible refine (shuttleref10_Stream.calls x8_3 x11_5 t145 _ A34.out).mono ?_); rintro e w' ⟨rfl, ⟨nd, rfl⟩⟩; (try first | exact ⟨rfl, _, World.drewN_drewN _ _ _⟩ | exact ⟨rfl, _, Eq.trans (World.drewN_drewN _ _ _) (congrArg (World.drewN _) (Nat.add_assoc _ _ _))⟩)))
                                            repeat ((with_reducible refine gate_quiet ?_); go_quiet (first | (go_at_call 18; (with_reducible refine (shuttleref10_Stream.calls x8_3 x11_5 t145 _ A34.out).mono ?_); rintro e w' ⟨rfl, ⟨nd, rfl⟩⟩; (try first | exact ⟨rfl, _, World.drewN_drewN _ _ _⟩ | exact ⟨rfl, _, Eq.trans (World.drewN_drewN _ _ _) (congrArg (World.drewN _) (Nat.add_assoc _ _ _))⟩))); try go_wp2_with (first | (go_at_call 18; (with_reducible refine (shuttleref10_Stream.calls x8_3 x11_5 t145 _ A34.out).mono ?_); rintro e w' ⟨rfl, ⟨nd, rfl⟩⟩; (try first | exact ⟨rfl, _, World.drewN_drewN _ _ _⟩ | exact ⟨rfl, _, Eq.trans (World.drewN_drewN _ _ _) (congrArg (World.drewN _) (Nat.add_assoc _ _ _))⟩))))
                                            go_ret
                                            exact ⟨by first | rfl | (simp [errW_none, errW_some] <;> rfl) | (simp only [← hji19]; first | rfl | (simp [errW_none, errW_some] <;> rfl)) | (simp [*, errW_none, errW_some] <;> rfl), by repeat (first | (with_reducible first | exact HB.out | apply below_alloc | apply pw_below_drewN | apply below_drew1) | exact HB.out)⟩
                                        · rw [if_neg c33] at H
                                          exact absurd H (by simp)
                                      · rw [if_neg c32] at H
                                        exact absurd H (by simp)
                                    · rw [if_neg c31] at H
                                      have c31b0 : decide (x11_5 < a1) = false := decide_eq_false c31
                                      clear c31
                                      have H' := Aside0.mk H
                                      clear H
                                      go_wp2
                                      repeat ((with_reducible refine gate_quiet ?_); go_quiet (fail); try go_wp2)
                                      go_roundg k5
                                      case measure => have := HJ5.out; have := HJ14.out; have := HK3.out; have := HJ25.out; have := HK5.out; omega
                                      case rel => exact ⟨(x7_5), (wrap64 (x8_3 + 1)), (by first | rfl | (simp; done) | (simp [*]; done)), H', ⟨by have := HJ5.out; have := HJ14.out; have := HK3.out; have := HJ25.out; have := HK5.out; omega⟩, ⟨by (with_reducible repeat (first | apply Kd.R_alloc | apply Kd.R_drewN | apply Kd.R_drew)); exact Kd.R_mono HO_5.out (fun _ hk => hk.1)⟩, ⟨by (with_reducible repeat (first | apply Kd.R_alloc | apply Kd.R_drewN | apply Kd.R_drew)); exact Kd.R_mono HO_7.out (fun _ hk => hk.1)⟩, ⟨by repeat (first | (with_reducible first | exact HB.out | apply below_alloc | apply pw_below_drewN | apply below_drew1) | exact HB.out)⟩⟩
                        · rw [if_neg c24] at H
                          have c24b0 : decide (x8_3 < 4) = false := decide_eq_false c24
                          clear c24
                          have H' := Aside0.mk H
                          clear H
                          go_wp2
                          repeat ((with_reducible refine gate_quiet ?_); go_quiet (fail); try go_wp2)
                          go_loopg [12] k3 (fun kq v12 w' => ∃ (x12_4 : Int), v12 = .int .i64 x12_4 ∧ Aside0 (shuttlelaw10_PatternPlaces.l2 kq x7_3 x12_4 = some r) ∧ Aside0 (kq ≤ k3) ∧ Aside0 (Kd.R (Kd.int .i64) 3 w' w.heap.size (fun _ => True) v138 x7_3) ∧ Aside0 (Below w.heap.size w w'))
                          case atStart => exact ⟨(0), (by first | rfl | (simp; done) | (simp [*]; done)), H', ⟨Nat.le_refl _⟩, ⟨by (with_reducible repeat (first | apply Kd.R_alloc | apply Kd.R_drewN | apply Kd.R_drew)); exact Kd.R_mono HO_7.out (fun _ hk => trivial)⟩, ⟨by repeat (first | (with_reducible first | exact HB.out | apply below_alloc | apply pw_below_drewN | apply below_drew1) | exact HB.out)⟩⟩
                          case round =>
                            clear H'
                            try clear c1
                            try clear p1
                            try clear q1
                            try clear hx1
                            try clear c2
                            try clear p2
                            try clear c3
                            try clear c4
                            try clear p4
                            try clear q4
                            try clear hx4
                            try clear hf4
                            try clear c5
                            try clear p5
                            try clear q5
                            try clear hx5
                            try clear hf5
                            try clear p6
                            try clear c9
                            try clear c9b0
                            try clear c10
                            try clear c10b0
                            try clear c11
                            try clear c11b0
                            try clear c12
                            try clear c13
                            try clear c13b0
                            try clear c13b1
                            try clear p14
                            try clear q14
                            try clear hx14
                            try clear p15
                            try clear q15
                            try clear hx15
                            try clear c16
                            try clear c16b0
                            try clear c16b1
                            try clear c18
                            try clear c20
                            try clear c20b0
                            try clear c20b1
                            try clear c21
                            try clear c21b0
                            try clear c21b1
                            try clear c24
                            try clear c24b0
                            try clear c28
                            try clear c28b0
                            try clear c28b1
                            try clear c30
                            try clear c31
                            try clear c31b0
                            try clear c32
                            try clear c32b0
                            try clear c33
                            try clear c33b0
                            try clear c35
                            try clear c35b0
                            try clear c35b1
                            try clear c36
                            try clear c36b0
                            try clear c36b1
                            try clear c37
                            try clear c37b0
                            try clear c38
                            try clear c38b0
                            try clear c38b1
                            try clear c39
                            try clear c39b0
                            try clear c40
                            try clear c40b0
                            try clear p41
                            try clear q41
                            try clear hx41
                            try clear hf41
                            try clear c49
                            try clear c49b0
                            try clear c50
                            try clear c50b0
                            try clear p51
                            try clear q51
                            try clear hx51
                            try clear hf51
                            try clear hx144_0
                            try clear hx146_0
                            try clear hx147_0
                            try clear hx148_0
                            try clear hx149_0
                            try clear hx151_0
                            try clear hx152_0
                            try clear hx41_0
                            try clear hx51_0
                            try clear p144
                            try clear p146
                            try clear p147
                            try clear p148
                            try clear p149
                            try clear p151
                            try clear p152
                            try clear p2
                            try clear p41
                            try clear p51
                            try clear p6
                            try clear q144
                            try clear q146
                            try clear q147
                            try clear q148
                            try clear q149
                            try clear q151
                            try clear q152
                            try clear q41
                            try clear q51
                            obtain ⟨x12_4, rfl, HA, HK4, HO_7, HB⟩ := hrel
                            cases gk with
                            | zero => exact absurd HA.out (by simp [shuttlelaw10_PatternPlaces.l2])
                            | succ k4 =>
                              have H := HA.out
                              clear HA
                              simp only [shuttlelaw10_PatternPlaces.l2] at H
                              by_cases c57 : x12_4 < (x7_3.length : Int)
                              · rw [if_pos c57] at H
                                have c57b0 : decide (x12_4 < (x7_3.length : Int)) = true := decide_eq_true c57
                                clear c57
                                by_cases c58 : 0 ≤ x12_4
                                · rw [if_pos c58] at H
                                  have c58b0 : decide (0 ≤ x12_4) = true := decide_eq_true c58
                                  clear c58
                                  by_cases c59 : (rd x7_3 x12_4) = 1
                                  · rw [if_pos c59] at H
                                    have c59b0 : ((rd x7_3 x12_4) == 1) = true := beq_iff_eq.mpr c59
                                    have c59b1 : ((rd x7_3 x12_4) != 1) = false := bne_eq_false_iff_eq.mpr c59
                                    clear c59
                                    have H' := Aside0.mk H
                                    clear H
                                    obtain ⟨Ao60, co60, eo60⟩ := Kd.R_slice HO_7.out
                                    subst eo60
                                    have p154 : 0 ≤ (x12_4 : Int) := of_decide_eq_true (by first | (with_reducible assumption) | assumption)
                                    have q154 : x12_4 < (x7_3.length : Int) := of_decide_eq_true (by first | (with_reducible assumption) | assumption)
                                    obtain ⟨ad154, e154, hx154_0⟩ := Kd.at_int (Kd.R_reads' HO_7.out).2.2 x12_4 p154 q154
                                    cases e154
                                    replace p154 := eq_true p154
                                    replace q154 := eq_true q154
                                    go_wp2
                                    repeat ((with_reducible refine gate_quiet ?_); go_quiet (fail); try go_wp2)
                                    go_roundg k4
                                    case measure => have := HJ5.out; have := HJ14.out; have := HK3.out; have := HK4.out; omega
                                    case rel => exact ⟨(wrap64 (x12_4 + 1)), (by first | rfl | (simp; done) | (simp [*]; done)), H', ⟨by have := HJ5.out; have := HJ14.out; have := HK3.out; have := HK4.out; omega⟩, ⟨by (with_reducible repeat (first | apply Kd.R_alloc | apply Kd.R_drewN | apply Kd.R_drew)); exact HO_7.out⟩, ⟨by repeat (first | (with_reducible first | exact HB.out | apply below_alloc | apply pw_below_drewN | apply below_drew1) | exact HB.out)⟩⟩
                                  · rw [if_neg c59] at H
                                    have c59b0 : ((rd x7_3 x12_4) == 1) = false := beq_eq_false_iff_ne.mpr c59
                                    have c59b1 : ((rd x7_3 x12_4) != 1) = true := bne_iff_ne.mpr c59
                                    obtain rfl := Option.some.inj H
                                    obtain ⟨Ao61, co61, eo61⟩ := Kd.R_slice HO_7.out
                                    subst eo61
                                    have p154 : 0 ≤ (x12_4 : Int) := of_decide_eq_true (by first | (with_reducible assumption) | assumption)
                                    have q154 : x12_4 < (x7_3.length : Int) := of_decide_eq_true (by first | (with_reducible assumption) | assumption)
                                    obtain ⟨ad154, e154, hx154_0⟩ := Kd.at_int (Kd.R_reads' HO_7.out).2.2 x12_4 p154 q154
                                    cases e154
                                    replace p154 := eq_true p154
                                    replace q154 := eq_true q154
                                    go_wp2
                                    repeat ((with_reducible refine gate_quiet ?_); go_quiet (fail); try go_wp2)
                                    go_ret
                                    exact ⟨by first | rfl | (simp [errW_none, errW_some] <;> rfl) | (simp only [← hji19]; first | rfl | (simp [errW_none, errW_some] <;> rfl)) | (simp [*, errW_none, errW_some] <;> rfl), by repeat (first | (with_reducible first | exact HB.out | apply below_alloc | apply pw_below_drewN | apply below_drew1) | exact HB.out)⟩
                                · rw [if_neg c58] at H
                                  exact absurd H (by simp)
                              · rw [if_neg c57] at H
                                have c57b0 : decide (x12_4 < (x7_3.length : Int)) = false := decide_eq_false c57
                                clear c57
                                obtain rfl := Option.some.inj H
                                obtain ⟨Ao62, co62, eo62⟩ := Kd.R_slice HO_7.out
                                subst eo62
                                go_wp2
                                repeat ((with_reducible refine gate_quiet ?_); go_quiet (fail); try go_wp2)
                                go_ret
                                exact ⟨by first | rfl | (simp [errW_none, errW_some] <;> rfl) | (simp only [← hji19]; first | rfl | (simp [errW_none, errW_some] <;> rfl)) | (simp [*, errW_none, errW_some] <;> rfl), by repeat (first | (with_reducible first | exact HB.out | apply below_alloc | apply pw_below_drewN | apply below_drew1) | exact HB.out)⟩
                  · rw [if_neg c21] at H
                    exact absurd H (by simp)
                · rw [if_neg c20] at H
                  exact absurd H (by simp)
  · replace c5 := Bool.eq_false_iff.mpr c5
    subst c5
    have H1 : (some false) = some r := by rw [if_neg (show ¬ (false = true) by decide)] at H; exact H
    clear H
    have H := H1
    clear H1
    obtain rfl := Option.some.inj H
    go_enter Try.func5, Try.ntmps5
    go_wp2_with (first | (go_at_call 16; (with_reducible refine (pattern_Places.calls k a0 a1 t132 t133 _ A3.out).mono ?_); rintro e w63 ⟨v134, rfl, ho0, hb⟩; have n0_ := Aside0.mk (Kd.R_lower ho0 (below_size (by repeat (first | (with_reducible first | exact HB.out | apply below_alloc | apply pw_below_drewN | apply below_drew1) | exact HB.out)))); have n1_ := Aside0.mk (below_step (by repeat (first | (with_reducible first | exact HB.out | apply below_alloc | apply pw_below_drewN | apply below_drew1) | exact HB.out)) hb); clear HB; have HO135 := n0_; have HB := n1_; clear n0_ n1_; (try clear hb); (try clear hb2); (try clear hk); (try clear hi); (try clear ho0)) | (go_at_call 17; (with_reducible refine (shuttlelaw10_stands.calls k  false _ A4.out).mono ?_); rintro e w64 ⟨rfl, hb⟩; have n0_ := Aside0.mk (Kd.R_below (by (with_reducible repeat (first | apply Kd.R_alloc | apply Kd.R_drewN | apply Kd.R_drew)); exact HO135.out) hb); have n1_ := Aside0.mk (below_step (by repeat (first | (with_reducible first | exact HB.out | apply below_alloc | apply pw_below_drewN | apply below_drew1) | exact HB.out)) hb); clear HO135; clear HB; have HO135 := n0_; have HB := n1_; clear n0_ n1_; (try clear hb); (try clear hb2); (try clear hk); (try clear hi)))
    repeat ((with_reducible refine gate_quiet ?_); go_quiet (first | (go_at_call 16; (with_reducible refine (pattern_Places.calls k a0 a1 t132 t133 _ A3.out).mono ?_); rintro e w63 ⟨v134, rfl, ho0, hb⟩; have n0_ := Aside0.mk (Kd.R_lower ho0 (below_size (by repeat (first | (with_reducible first | exact HB.out | apply below_alloc | apply pw_below_drewN | apply below_drew1) | exact HB.out)))); have n1_ := Aside0.mk (below_step (by repeat (first | (with_reducible first | exact HB.out | apply below_alloc | apply pw_below_drewN | apply below_drew1) | exact HB.out)) hb); clear HB; have HO135 := n0_; have HB := n1_; clear n0_ n1_; (try clear hb); (try clear hb2); (try clear hk); (try clear hi); (try clear ho0)) | (go_at_call 17; (with_reducible refine (shuttlelaw10_stands.calls k  false _ A4.out).mono ?_); rintro e w64 ⟨rfl, hb⟩; have n0_ := Aside0.mk (Kd.R_below (by (with_reducible repeat (first | apply Kd.R_alloc | apply Kd.R_drewN | apply Kd.R_drew)); exact HO135.out) hb); have n1_ := Aside0.mk (below_step (by repeat (first | (with_reducible first | exact HB.out | apply below_alloc | apply pw_below_drewN | apply below_drew1) | exact HB.out)) hb); clear HO135; clear HB; have HO135 := n0_; have HB := n1_; clear n0_ n1_; (try clear hb); (try clear hb2); (try clear hk); (try clear hi))); try go_wp2_with (first | (go_at_call 16; (with_reducible refine (pattern_Places.calls k a0 a1 t132 t133 _ A3.out).mono ?_); rintro e w63 ⟨v134, rfl, ho0, hb⟩; have n0_ := Aside0.mk (Kd.R_lower ho0 (below_size (by repeat (first | (with_reducible first | exact HB.out | apply below_alloc | apply pw_below_drewN | apply below_drew1) | exact HB.out)))); have n1_ := Aside0.mk (below_step (by repeat (first | (with_reducible first | exact HB.out | apply below_alloc | apply pw_below_drewN | apply below_drew1) | exact HB.out)) hb); clear HB; have HO135 := n0_; have HB := n1_; clear n0_ n1_; (try clear hb); (try clear hb2); (try clear hk); (try clear hi); (try clear ho0)) | (go_at_call 17; (with_reducible refine (shuttlelaw10_stands.calls k  false _ A4.out).mono ?_); rintro e w64 ⟨rfl, hb⟩; have n0_ := Aside0.mk (Kd.R_below (by (with_reducible repeat (first | apply Kd.R_alloc | apply Kd.R_drewN | apply Kd.R_drew)); exact HO135.out) hb); have n1_ := Aside0.mk (below_step (by repeat (first | (with_reducible first | exact HB.out | apply below_alloc | apply pw_below_drewN | apply below_drew1) | exact HB.out)) hb); clear HO135; clear HB; have HO135 := n0_; have HB := n1_; clear n0_ n1_; (try clear hb); (try clear hb2); (try clear hk); (try clear hi))))
    go_ret
    exact ⟨by first | rfl | (simp [errW_none, errW_some] <;> rfl) | (simp [*, errW_none, errW_some] <;> rfl), by repeat (first | (with_reducible first | exact HB.out | apply below_alloc | apply pw_below_drewN | apply below_drew1) | exact HB.out)⟩

/-- THE ONE PURE STATEMENT of shuttlelaw10_PatternPlaces: yours. -/
def shuttlelaw10_PatternPlaces.Pure : Prop := ∀ (a0 : Int) (a1 : Int), (Lit.int .i64 a0).wf = true → (Lit.int .i64 a1).wf = true → ∃ k, shuttlelaw10_PatternPlaces.f k a0 a1 = some true
theorem shuttlelaw10_PatternPlaces.walk (P : shuttlelaw10_PatternPlaces.Pure) (a0 : Int) (a1 : Int) (w : World) (w0 : (Lit.int .i64 a0).wf = true) (w1 : (Lit.int .i64 a1).wf = true) :
    Calls Try.prog 5 #[.int .i64 a0, .int .i64 a1] w fun e w' => e = .returned (.bool true) ∧ Below w.heap.size w w' := by
  obtain ⟨k, h⟩ := P a0 a1 w0 w1
  refine (shuttlelaw10_PatternPlaces.calls k a0 a1 true w h).mono ?_
  rintro e w' ⟨rfl, hd⟩
  exact ⟨rfl, hd⟩

end Go.Proofs.Ytkhpgjojbdgkfaa.X
