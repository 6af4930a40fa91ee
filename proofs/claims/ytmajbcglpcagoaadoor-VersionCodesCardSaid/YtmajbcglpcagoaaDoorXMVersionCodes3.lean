/- Texts of this seat, one behind the other (merge.py): the walks of the functions that the law VersionCodes uses, and plain words on what they come to. No condition. -/
import Derived.Test.YtmajbcglpcagoaaDoorXMVersionCodes2
-- YtmajbcglpcagoaaDoorX44
namespace Go.Proofs.YtmajbcglpcagoaaDoor.X
open Go.RowKit Go.Proofs.YtmajbcglpcagoaaDoorW.PrintWords Go.Proofs.YtmajbcglpcagoaaDoorW.PrintLast Go.Proofs.YtmajbcglpcagoaaDoorW.PrintMore
attribute [local go_sem] max2_int min2_int max_two min_two max_three min_three max_four min_four   -- for this text's walks alone
set_option linter.unusedVariables false
set_option linter.unusedSimpArgs false

/-! ### shuttleref11_Alone: function 20 -/
mutual
def shuttleref11_Alone.l0 : Nat → List Int → Int → List Int → Int → Option (List Int × Bool)
  | 0, _, _, _, _ => none
  | k + 1, x0, x1, x6, x7 => if x7 < (x0.length : Int) then ((some (([] : List Int) : List Int)).bind fun y492 => (if y492.length + x6.length < 140737488355328 then ((some (y492 ++ x6 : List Int)).bind fun y495 => ((some (([0] : List Int) : List Int)).bind fun y498 => (if y495.length + y498.length < 140737488355328 then ((shuttleref10_Stream.f x1 x7).bind fun t504 => ((shuttleref06_Bit.f (y495 ++ y498) x7 t504).bind fun t505 => (if 0 ≤ x7 then (if t505 = (rd x0 x7) then ((some (([0] : List Int) : List Int)).bind fun y507 => (if x6.length + y507.length < 140737488355328 then (shuttleref11_Alone.l0 k x0 x1 (x6 ++ y507) (wrap64 (x7 + 1))) else (none))) else ((some (([1] : List Int) : List Int)).bind fun y513 => (if x6.length + y513.length < 140737488355328 then (shuttleref11_Alone.l0 k x0 x1 (x6 ++ y513) (wrap64 (x7 + 1))) else (none)))) else (none)))) else (none)))) else (none))) else (shuttleref11_Alone.l1 k x6 (wrap64 ((x0.length : Int) - 6)) (wrap64 ((x0.length : Int) - 6)))
def shuttleref11_Alone.l1 : Nat → List Int → Int → Int → Option (List Int × Bool)
  | 0, _, _, _ => none
  | k + 1, x6, x9, x10 => if x10 < (x6.length : Int) then (if 0 ≤ x10 then (if (rd x6 x10) = 0 then (shuttleref11_Alone.l1 k x6 x9 (wrap64 (x10 + 1))) else (some (([] : List Int), false))) else (none)) else (if 0 ≤ x9 then (if x9 ≤ (x6.length : Int) then (some ((x6.take (x9 : Int).toNat), true)) else (none)) else (none))
end
def shuttleref11_Alone.f (k : Nat) (l0 : List Int) (a1 : Int) : Option (List Int × Bool) := shuttleref11_Alone.l0 k l0 a1 ([] : List Int) 0
theorem shuttleref11_Alone.mono_l : ∀ k, (∀ y0 y1 y2 y3, LeO (shuttleref11_Alone.l0 k y0 y1 y2 y3) (shuttleref11_Alone.l0 (k + 1) y0 y1 y2 y3)) ∧ (∀ y0 y1 y2, LeO (shuttleref11_Alone.l1 k y0 y1 y2) (shuttleref11_Alone.l1 (k + 1) y0 y1 y2))
  | 0 => ⟨fun _ _ _ _ r h => by simp [shuttleref11_Alone.l0] at h, fun _ _ _ r h => by simp [shuttleref11_Alone.l1] at h⟩
  | k + 1 => by
    obtain ⟨ih0, ih1⟩ := shuttleref11_Alone.mono_l k
    refine ⟨?_, ?_⟩
    · intro y0 y1 y2 y3
      unfold shuttleref11_Alone.l0
      repeat' first
      | (with_reducible exact ih0 _ _ _ _)
      | (with_reducible exact ih1 _ _ _)
      | (with_reducible exact LeO.refl _)
      | (with_reducible exact LeO.none _)
      | (with_reducible refine LeO.ite ?_ ?_)
      | (with_reducible refine LeO.bind ?_ (fun _ => ?_))
      | exact ih0 _ _ _ _
      | exact ih1 _ _ _
      | exact LeO.none _
      | refine LeO.ite ?_ ?_
      | refine LeO.bind ?_ (fun _ => ?_)
    · intro y0 y1 y2
      unfold shuttleref11_Alone.l1
      repeat' first
      | (with_reducible exact ih0 _ _ _ _)
      | (with_reducible exact ih1 _ _ _)
      | (with_reducible exact LeO.refl _)
      | (with_reducible exact LeO.none _)
      | (with_reducible refine LeO.ite ?_ ?_)
      | (with_reducible refine LeO.bind ?_ (fun _ => ?_))
      | exact ih0 _ _ _ _
      | exact ih1 _ _ _
      | exact LeO.none _
      | refine LeO.ite ?_ ?_
      | refine LeO.bind ?_ (fun _ => ?_)
theorem shuttleref11_Alone.mono : ∀ a0 a1 k, LeO (shuttleref11_Alone.f k a0 a1) (shuttleref11_Alone.f (k + 1) a0 a1) := by
  intro a0 a1 k
  obtain ⟨ih0, ih1⟩ := shuttleref11_Alone.mono_l k
  unfold shuttleref11_Alone.f
  repeat' first
      | (with_reducible exact ih0 _ _ _ _)
      | (with_reducible exact ih1 _ _ _)
      | (with_reducible exact LeO.refl _)
      | (with_reducible exact LeO.none _)
      | (with_reducible refine LeO.ite ?_ ?_)
      | (with_reducible refine LeO.bind ?_ (fun _ => ?_))
      | exact ih0 _ _ _ _
      | exact ih1 _ _ _
      | exact LeO.none _
      | refine LeO.ite ?_ ?_
      | refine LeO.bind ?_ (fun _ => ?_)
def shuttleref11_Alone.T6 : Bool × List (List Nat × List Nat) := (true, [([], []), ([], []), ([0, 1], [0, 1]), ([], []), ([2, 3, 2], [2, 3]), ([], []), ([], []), ([], []), ([6, 7, 4], [6, 7]), ([4, 5, 8, 8], [4, 5, 8]), ([], []), ([], []), ([10, 11], [10, 11]), ([12], [12]), ([9, 13], [9, 13])])
def shuttleref11_Alone.B6 : List Nat := [0, 0, 3, 0, 15, 0, 0, 0, 223, 511, 0, 0, 3072, 7168, 16383]
theorem shuttleref11_Alone.tab6 : rtab .any (opsOf Tryd.f20 6) = shuttleref11_Alone.T6 := by kernel_rfl
theorem shuttleref11_Alone.bits6 : waitsOk shuttleref11_Alone.T6.2 shuttleref11_Alone.B6 = true := by kernel_rfl
set_option maxHeartbeats 8000000 in
set_option maxRecDepth 100000 in
theorem shuttleref11_Alone.calls (k : Nat) (A0 : Option Addr) (c0 : Nat) (l0 : List Int) (a1 : Int) (r1 : List Int) (r2 : Bool) (w : World) (hr0 : Kd.C (Kd.int .u8) w A0 l0.length l0) (hc0 : l0.length ≤ c0) (h : shuttleref11_Alone.f k l0 a1 = some (r1, r2)) :
    Calls Tryd.prog 20 #[.slice A0 l0.length c0, .int .i64 a1] w fun e w' => ∃ v0_ : Value, e = .returned (.tuple #[v0_, .bool r2]) ∧ Kd.R (Kd.int .u8) 5 w' w.heap.size (fun _ => True) v0_ r1 ∧ Below w.heap.size w w' := by
  have HR0 := Aside0.mk hr0
  have HC0 := Aside0.mk hc0
  clear hr0 hc0
  have HB := Aside0.mk (Below.refl w.heap.size w)
  have H : (shuttleref11_Alone.l0 k l0 a1 ([] : List Int) 0) = some (r1, r2) := h
  clear h
  have H' := Aside0.mk H
  clear H
  go_enter Tryd.func20, Tryd.ntmps20
  go_wp2
  go_loopg [6, 7] k (fun kq v6 v7 w' => ∃ (x6_1 : List Int) (x7_1 : Int), v7 = .int .i64 x7_1 ∧ Aside0 (shuttleref11_Alone.l0 kq l0 a1 x6_1 x7_1 = some (r1, r2)) ∧ Aside0 (kq ≤ k) ∧ Aside0 (Kd.R (Kd.int .u8) 5 w' w.heap.size (fun _ => True) v6 x6_1) ∧ Aside0 (Below w.heap.size w w'))
  case atStart => exact ⟨(([] : List Int)), (0), (by first | rfl | (simp; done) | (simp [*]; done)), H', ⟨Nat.le_refl _⟩, ⟨by first | exact Kd.R_nil _ _ _ _ _ | exact Kd.N_nil _ _ _ _ _ | exact Kd.V_nil _ _ _ _ _ | exact Kd.Q_nil _ _ _ _ _ | exact Kd.S_nil _ _ _ _ _⟩, ⟨by repeat (first | (with_reducible first | exact HB.out | apply below_alloc | apply pw_below_drewN | apply below_drew1) | exact HB.out)⟩⟩
  case round =>
    clear H'
    try clear c2
    try clear p2
    obtain ⟨x6_1, x7_1, rfl, HA, HK1, HO_6, HB⟩ := hrel
    cases gk with
    | zero => exact absurd HA.out (by simp [shuttleref11_Alone.l0])
    | succ k1 =>
      have H := HA.out
      clear HA
      simp only [shuttleref11_Alone.l0] at H
      by_cases c3 : x7_1 < (l0.length : Int)
      · rw [if_pos c3] at H
        have c3b0 : decide (x7_1 < (l0.length : Int)) = true := decide_eq_true c3
        clear c3
        obtain ⟨y492, hy492⟩ : ∃ y_ : List Int, y_ = (([] : List Int)) := ⟨_, rfl⟩
        replace H : (if y492.length + x6_1.length < 140737488355328 then ((some (y492 ++ x6_1 : List Int)).bind fun y495 => ((some (([0] : List Int) : List Int)).bind fun y498 => (if y495.length + y498.length < 140737488355328 then ((shuttleref10_Stream.f a1 x7_1).bind fun t504 => ((shuttleref06_Bit.f (y495 ++ y498) x7_1 t504).bind fun t505 => (if 0 ≤ x7_1 then (if t505 = (rd l0 x7_1) then ((some (([0] : List Int) : List Int)).bind fun y507 => (if x6_1.length + y507.length < 140737488355328 then (shuttleref11_Alone.l0 k1 l0 a1 (x6_1 ++ y507) (wrap64 (x7_1 + 1))) else (none))) else ((some (([1] : List Int) : List Int)).bind fun y513 => (if x6_1.length + y513.length < 140737488355328 then (shuttleref11_Alone.l0 k1 l0 a1 (x6_1 ++ y513) (wrap64 (x7_1 + 1))) else (none)))) else (none)))) else (none)))) else (none)) = some (r1, r2) := by first | (rw [hy492]; with_reducible exact H) | (have H2_ := (Option.bind_some _ _).symm.trans H; rw [hy492]; with_reducible exact H2_) | (have H2_ := (Option.bind_some _ _).symm.trans H; with_reducible exact H2_) | with_reducible exact H | (rw [hy492]; exact H) | exact H
        have Ny492 := Aside0.mk hy492
        clear hy492
        by_cases c4 : y492.length + x6_1.length < 140737488355328
        · rw [if_pos c4] at H
          have LMc4 := Aside0.mk c4
          clear c4
          obtain ⟨y495, hy495⟩ : ∃ y_ : List Int, y_ = (y492 ++ x6_1) := ⟨_, rfl⟩
          replace H : ((some (([0] : List Int) : List Int)).bind fun y498 => (if y495.length + y498.length < 140737488355328 then ((shuttleref10_Stream.f a1 x7_1).bind fun t504 => ((shuttleref06_Bit.f (y495 ++ y498) x7_1 t504).bind fun t505 => (if 0 ≤ x7_1 then (if t505 = (rd l0 x7_1) then ((some (([0] : List Int) : List Int)).bind fun y507 => (if x6_1.length + y507.length < 140737488355328 then (shuttleref11_Alone.l0 k1 l0 a1 (x6_1 ++ y507) (wrap64 (x7_1 + 1))) else (none))) else ((some (([1] : List Int) : List Int)).bind fun y513 => (if x6_1.length + y513.length < 140737488355328 then (shuttleref11_Alone.l0 k1 l0 a1 (x6_1 ++ y513) (wrap64 (x7_1 + 1))) else (none)))) else (none)))) else (none))) = some (r1, r2) := by first | (rw [hy495]; with_reducible exact H) | (have H2_ := (Option.bind_some _ _).symm.trans H; rw [hy495]; with_reducible exact H2_) | (have H2_ := (Option.bind_some _ _).symm.trans H; with_reducible exact H2_) | with_reducible exact H | (rw [hy495]; exact H) | exact H
          have Ny495 := Aside0.mk hy495
          clear hy495
          obtain ⟨y498, hy498⟩ : ∃ y_ : List Int, y_ = (([0] : List Int)) := ⟨_, rfl⟩
          replace H : (if y495.length + y498.length < 140737488355328 then ((shuttleref10_Stream.f a1 x7_1).bind fun t504 => ((shuttleref06_Bit.f (y495 ++ y498) x7_1 t504).bind fun t505 => (if 0 ≤ x7_1 then (if t505 = (rd l0 x7_1) then ((some (([0] : List Int) : List Int)).bind fun y507 => (if x6_1.length + y507.length < 140737488355328 then (shuttleref11_Alone.l0 k1 l0 a1 (x6_1 ++ y507) (wrap64 (x7_1 + 1))) else (none))) else ((some (([1] : List Int) : List Int)).bind fun y513 => (if x6_1.length + y513.length < 140737488355328 then (shuttleref11_Alone.l0 k1 l0 a1 (x6_1 ++ y513) (wrap64 (x7_1 + 1))) else (none)))) else (none)))) else (none)) = some (r1, r2) := by first | (rw [hy498]; with_reducible exact H) | (have H2_ := (Option.bind_some _ _).symm.trans H; rw [hy498]; with_reducible exact H2_) | (have H2_ := (Option.bind_some _ _).symm.trans H; with_reducible exact H2_) | with_reducible exact H | (rw [hy498]; exact H) | exact H
          have Ny498 := Aside0.mk hy498
          clear hy498
          by_cases c5 : y495.length + y498.length < 140737488355328
          · rw [if_pos c5] at H
            have LMc5 := Aside0.mk c5
            clear c5
            obtain ⟨y501, hy501⟩ : ∃ y_ : List Int, y_ = (y495 ++ y498) := ⟨_, rfl⟩
            replace H : ((shuttleref10_Stream.f a1 x7_1).bind fun t504 => ((shuttleref06_Bit.f y501 x7_1 t504).bind fun t505 => (if 0 ≤ x7_1 then (if t505 = (rd l0 x7_1) then ((some (([0] : List Int) : List Int)).bind fun y507 => (if x6_1.length + y507.length < 140737488355328 then (shuttleref11_Alone.l0 k1 l0 a1 (x6_1 ++ y507) (wrap64 (x7_1 + 1))) else (none))) else ((some (([1] : List Int) : List Int)).bind fun y513 => (if x6_1.length + y513.length < 140737488355328 then (shuttleref11_Alone.l0 k1 l0 a1 (x6_1 ++ y513) (wrap64 (x7_1 + 1))) else (none)))) else (none)))) = some (r1, r2) := by first | (rw [hy501]; with_reducible exact H) | (have H2_ := (Option.bind_some _ _).symm.trans H; rw [hy501]; with_reducible exact H2_) | (have H2_ := (Option.bind_some _ _).symm.trans H; with_reducible exact H2_) | with_reducible exact H | (rw [hy501]; exact H) | exact H
            have Ny501 := Aside0.mk hy501
            clear hy501
            replace H := Option.bind_eq_some_iff.mp H
            obtain ⟨t504, A60, H⟩ := H
            replace H : ((shuttleref06_Bit.f y501 x7_1 t504).bind fun t505 => (if 0 ≤ x7_1 then (if t505 = (rd l0 x7_1) then ((some (([0] : List Int) : List Int)).bind fun y507 => (if x6_1.length + y507.length < 140737488355328 then (shuttleref11_Alone.l0 k1 l0 a1 (x6_1 ++ y507) (wrap64 (x7_1 + 1))) else (none))) else ((some (([1] : List Int) : List Int)).bind fun y513 => (if x6_1.length + y513.length < 140737488355328 then (shuttleref11_Alone.l0 k1 l0 a1 (x6_1 ++ y513) (wrap64 (x7_1 + 1))) else (none)))) else (none))) = some (r1, r2) := H
            have A6 := Aside0.mk A60
            clear A60
            replace H := Option.bind_eq_some_iff.mp H
            obtain ⟨t505, A70, H⟩ := H
            replace H : (if 0 ≤ x7_1 then (if t505 = (rd l0 x7_1) then ((some (([0] : List Int) : List Int)).bind fun y507 => (if x6_1.length + y507.length < 140737488355328 then (shuttleref11_Alone.l0 k1 l0 a1 (x6_1 ++ y507) (wrap64 (x7_1 + 1))) else (none))) else ((some (([1] : List Int) : List Int)).bind fun y513 => (if x6_1.length + y513.length < 140737488355328 then (shuttleref11_Alone.l0 k1 l0 a1 (x6_1 ++ y513) (wrap64 (x7_1 + 1))) else (none)))) else (none)) = some (r1, r2) := H
            have A7 := Aside0.mk A70
            clear A70
            by_cases c8 : 0 ≤ x7_1
            · rw [if_pos c8] at H
              have c8b0 : decide (0 ≤ x7_1) = true := decide_eq_true c8
              clear c8
              by_cases c9 : t505 = (rd l0 x7_1)
              · rw [if_pos c9] at H
                have c9b0 : (t505 == (rd l0 x7_1)) = true := beq_iff_eq.mpr c9
                have c9b1 : (t505 != (rd l0 x7_1)) = false := bne_eq_false_iff_eq.mpr c9
                clear c9
                obtain ⟨y507, hy507⟩ : ∃ y_ : List Int, y_ = (([0] : List Int)) := ⟨_, rfl⟩
                replace H : (if x6_1.length + y507.length < 140737488355328 then (shuttleref11_Alone.l0 k1 l0 a1 (x6_1 ++ y507) (wrap64 (x7_1 + 1))) else (none)) = some (r1, r2) := by first | (rw [hy507]; with_reducible exact H) | (have H2_ := (Option.bind_some _ _).symm.trans H; rw [hy507]; with_reducible exact H2_) | (have H2_ := (Option.bind_some _ _).symm.trans H; with_reducible exact H2_) | with_reducible exact H | (rw [hy507]; exact H) | exact H
                have Ny507 := Aside0.mk hy507
                clear hy507
                by_cases c10 : x6_1.length + y507.length < 140737488355328
                · rw [if_pos c10] at H
                  have LMc10 := Aside0.mk c10
                  clear c10
                  obtain ⟨y510, hy510⟩ : ∃ y_ : List Int, y_ = (x6_1 ++ y507) := ⟨_, rfl⟩
                  replace H : (shuttleref11_Alone.l0 k1 l0 a1 y510 (wrap64 (x7_1 + 1))) = some (r1, r2) := by first | (rw [hy510]; with_reducible exact H) | (have H2_ := (Option.bind_some _ _).symm.trans H; rw [hy510]; with_reducible exact H2_) | (have H2_ := (Option.bind_some _ _).symm.trans H; with_reducible exact H2_) | with_reducible exact H | (rw [hy510]; exact H) | exact H
                  have Ny510 := Aside0.mk hy510
                  clear hy510
                  have H' := Aside0.mk H
                  clear H
                  obtain ⟨Ao11, co11, eo11⟩ := Kd.R_slice HO_6.out
                  subst eo11
                  try go_wp2
                  have n0_ := Aside0.mk (Kd.R_drew HO_6.out)
                  have n1_ := Aside0.mk (below_drew1 HB.out)
                  clear HO_6
                  clear HB
                  have HO_6 := n0_
                  have HB := n1_
                  clear n0_ n1_
                  have p506 : 0 ≤ (x7_1 : Int) := of_decide_eq_true (by first | (with_reducible assumption) | assumption)
                  have q506 : x7_1 < (l0.length : Int) := of_decide_eq_true (by first | (with_reducible assumption) | assumption)
                  obtain ⟨ad506, e506, hx506_0⟩ := Kd.at_int HR0.out x7_1 p506 q506
                  have hw506_0 := hx506_0
                  cases e506
                  replace hx506_0 := (HB.out.cell (World.block_lt_of_cell? w _ hx506_0)).trans hx506_0
                  replace p506 := eq_true p506
                  replace q506 := eq_true q506
                  refine start_ (n := 15) (S := fun w' => w'.cell? (ad506.add (x7_1).toNat) = some (.int .u8 (rd l0 x7_1))) (ds := []) #[false, false, false, false, false, false, false, false, false, false, false, false, false, false, false] (by kernel_rfl) rfl rfl (((HB.out.cell (World.block_lt_of_cell? w _ hw506_0)).trans hw506_0)) (fun hHeld => ?_); refine with_tabW shuttleref11_Alone.tab6 shuttleref11_Alone.bits6 (fun HT_ HW_ => ?_)
                  generalize wr.drew = w12 at HO_6 HB hx506_0 hHeld ⊢
                  refine pure_ (i := 1) (N := some 18) (v := ?_) (a' := ?_) #[false, true, false, false, false, false, false, false, false, false, false, false, false, false, false] rfl rfl (any_of HT_.out (by kernel_rfl)) (fun _ _ _ h => h) (Or.inl ⟨by rfl, ?_⟩) ?_ ?_
                  rotate_left
                  · intro w'
                    go_simp
                    with_reducible rfl
                  rotate_left
                  · simp only [Act.put, List.setIfInBounds_toArray, List.set_cons_zero, List.set_cons_succ, i64_w, i32_w]
                    rfl
                  refine pure_ (i := 5) (N := some 22) (v := ?_) (a' := ?_) #[false, true, false, false, false, true, false, false, false, false, false, false, false, false, false] rfl rfl (any_of HT_.out (by kernel_rfl)) (fun _ _ _ h => h) (Or.inl ⟨by rfl, ?_⟩) ?_ ?_
                  rotate_left
                  · intro w'
                    go_simp
                    with_reducible rfl
                  rotate_left
                  · simp only [Act.put, List.setIfInBounds_toArray, List.set_cons_zero, List.set_cons_succ, i64_w, i32_w]
                    rfl
                  refine pure_ (i := 6) (N := some 23) (v := ?_) (a' := ?_) #[false, true, false, false, false, true, true, false, false, false, false, false, false, false, false] rfl rfl (any_of HT_.out (by kernel_rfl)) (fun _ _ _ h => h) (Or.inl ⟨by rfl, ?_⟩) ?_ ?_
                  rotate_left
                  · intro w'
                    go_simp
                    with_reducible rfl
                  rotate_left
                  · simp only [Act.put, List.setIfInBounds_toArray, List.set_cons_zero, List.set_cons_succ, i64_w, i32_w]
                    rfl
                  refine pure_ (i := 7) (N := some 24) (v := ?_) (a' := ?_) #[false, true, false, false, false, true, true, true, false, false, false, false, false, false, false] rfl rfl (any_of HT_.out (by kernel_rfl)) (fun _ _ _ h => h) (Or.inl ⟨by rfl, ?_⟩) ?_ ?_
                  rotate_left
                  · intro w'
                    go_simp
                    with_reducible rfl
                  rotate_left
                  · simp only [Act.put, List.setIfInBounds_toArray, List.set_cons_zero, List.set_cons_succ, i64_w, i32_w]
                    rfl
                  refine pure_ (i := 10) (N := some 27) (v := ?_) (a' := ?_) #[false, true, false, false, false, true, true, true, false, false, true, false, false, false, false] rfl rfl (any_of HT_.out (by kernel_rfl)) (fun _ _ _ h => h) (Or.inl ⟨by rfl, ?_⟩) ?_ ?_
                  rotate_left
                  · intro w'
                    go_simp
                    with_reducible rfl
                  rotate_left
                  · simp only [Act.put, List.setIfInBounds_toArray, List.set_cons_zero, List.set_cons_succ, i64_w, i32_w]
                    rfl
                  refine pure_ (i := 11) (N := some 28) (v := ?_) (a' := ?_) #[false, true, false, false, false, true, true, true, false, false, true, true, false, false, false] rfl rfl (any_of HT_.out (by kernel_rfl)) (fun _ _ _ h => h) (Or.inl ⟨by rfl, ?_⟩) ?_ ?_
                  rotate_left
                  · intro w'
                    go_simp
                    with_reducible rfl
                  rotate_left
                  · simp only [Act.put, List.setIfInBounds_toArray, List.set_cons_zero, List.set_cons_succ, i64_w, i32_w]
                    rfl
                  refine pure_ (i := 12) (N := some 29) (v := ?_) (a' := ?_) #[false, true, false, false, false, true, true, true, false, false, true, true, true, false, false] rfl rfl (any_of HT_.out (by kernel_rfl)) (fun _ _ _ h => h) (Or.inl ⟨by rfl, ?_⟩) ?_ ?_
                  rotate_left
                  · intro w'
                    go_simp
                    with_reducible rfl
                  rotate_left
                  · simp only [Act.put, List.setIfInBounds_toArray, List.set_cons_zero, List.set_cons_succ, i64_w, i32_w]
                    rfl
                  refine take_ (i := 13) (N := some 30) (v := ?_) (a' := ?_) #[false, true, false, false, false, true, true, true, false, false, true, true, true, true, false] rfl rfl (take_ofW HT_.out HW_.out (by kernel_rfl)) (fun _ _ _ h => h) (Or.inl ⟨by rfl, ?_⟩) hHeld ?_ ?_
                  rotate_left
                  · intro w' s0
                    go_simp
                    with_reducible rfl
                  rotate_left
                  · simp only [Act.put, List.setIfInBounds_toArray, List.set_cons_zero, List.set_cons_succ, i64_w, i32_w]
                    rfl
                  refine join_ (σ := Value × Value × Value) 4 #[true, true, true, true, false, true, true, true, false, false, true, true, true, true, false] (fun s_ => [(17, s_.1), (19, s_.2.1), (20, s_.2.2)]) (fun s_ w' => (w'.cell? (ad506.add (x7_1).toNat) = some (.int .u8 (rd l0 x7_1))) ∧ (Kd.R (Kd.int .u8) 5 w' w.heap.size (fun k_ => some k_ ≠ (s_.2.2 : Value).ownBlock ∧ some k_ ≠ (.slice Ao11 x6_1.length co11 : Value).ownBlock) s_.2.1 y495) ∧ (Kd.R (Kd.int .u8) 5 w' w.heap.size (fun k_ => some k_ ≠ (s_.2.1 : Value).ownBlock ∧ some k_ ≠ (.slice Ao11 x6_1.length co11 : Value).ownBlock) s_.2.2 y498) ∧ (Kd.R (Kd.int .u8) 5 w' w.heap.size (fun k_ => some k_ ≠ (s_.2.1 : Value).ownBlock ∧ some k_ ≠ (s_.2.2 : Value).ownBlock) (.slice Ao11 x6_1.length co11) x6_1) ∧ (Below w.heap.size w w')) ?_ ?_
                  rotate_left
                  · intro hCont
                    refine two_ (i := 0) (j := 3) (Ni := some 17) (Nj := some 20) #[true, true, false, false, false, true, true, true, false, false, true, true, true, true, false] #[false, true, false, true, false, true, true, true, false, false, true, true, true, true, false] rfl rfl rfl rfl (two_of HT_.out (by kernel_rfl)) (by decide) (by decide) (fun K hK => ?_) (fun K hK => ?_)
                    · skip
                      refine Kd.R_lit_step (Kd.int .u8) _ 5 ?hg (N := 17) ?hd (xs := ([] : List Int)) (inner := []) (ok := fun _ => True) (okp := fun _ => True) ?hr ?hp (fun _ hk => hk) trivial (Below.refl _ _) (Nat.le_refl _) (by simp) ?_; (case hd => rfl); (case hg => rfl); (case hr => first | (go_simp; done) | (go_simp; rfl)); (case hp => exact (Reps.none _ _))
                      intro v493 w13 ho14 hb hg_ hnew_
                      clear hg_ hnew_
                      (first | rw [← Ny492.out] at ho14 | (simp only [Int.reduceToNat] at ho14; rw [← Ny492.out] at ho14))
                      have n0_ := Aside0.mk (Kd.R_elder' (by (with_reducible repeat (first | apply Kd.R_alloc | apply Kd.R_drewN | apply Kd.R_drew)); exact HO_6.out) (Kd.R_base ho14) hb)
                      have n1_ := Aside0.mk (Kd.R_lower (Kd.R_new' ho14 (Kd.R_lt (by (with_reducible repeat (first | apply Kd.R_alloc | apply Kd.R_drewN | apply Kd.R_drew)); exact HO_6.out))) (below_size (by repeat (first | (with_reducible first | exact HB.out | apply below_alloc | apply pw_below_drewN | apply below_drew1) | exact HB.out))))
                      have n2_ := Aside0.mk (below_step (by repeat (first | (with_reducible first | exact HB.out | apply below_alloc | apply pw_below_drewN | apply below_drew1) | exact HB.out)) hb)
                      clear HO_6
                      clear HB
                      have HO_6 := n0_
                      have HO494 := n1_
                      have HB := n2_
                      clear n0_ n1_ n2_
                      clear hb ho14
                      refine hK.out _ _ (((HB.out.cell (World.block_lt_of_cell? w _ hw506_0)).trans hw506_0)) (fun hHeld => ?_)
                      clear hK K
                      refine norm_ (a' := ?_) ?_ ?_
                      rotate_left
                      · show Act.put _ (some 17) _ = _
                        simp only [Act.put, List.setIfInBounds_toArray, List.set_cons_zero, List.set_cons_succ, i64_w, i32_w]
                        rfl
                      refine two_ (i := 2) (j := 3) (Ni := some 19) (Nj := some 20) #[true, true, true, false, false, true, true, true, false, false, true, true, true, true, false] #[true, true, false, true, false, true, true, true, false, false, true, true, true, true, false] rfl rfl rfl rfl (two_of HT_.out (by kernel_rfl)) (by decide) (by decide) (fun K hK => ?_) (fun K hK => ?_)
                      · skip
                        refine Kd.R_append_rows_step (Kd.int .u8) (w0 := w) w.heap.size (by rfl) (.tmp 17) (.tmp 18) 35 5 (.int .u8 0) 1 rfl Tryd.underlying35 info5 rfl (by decide) (by omega) v493 y492 x6_1 _ _ _ (fun k_ => some k_ ≠ (.slice Ao11 x6_1.length co11 : Value).ownBlock) (fun _ => False) rfl rfl ?aO ?aR (fun _ _ h => h) (fun _ h => h.elim) ?aF ?aB ?aS ?aL ?_
                        (case aR => repeat (first | exact (Kd.R_reads' HO_6.out).2.2 | (with_reducible refine Kd.C_alloc ?_ _) | (with_reducible refine Kd.C_drewN ?_ _) | (with_reducible refine Kd.C_drew ?_)))
                        (case aB => exact (by repeat (first | (with_reducible first | exact HB.out | apply below_alloc | apply pw_below_drewN | apply below_drew1) | exact HB.out)))
                        (case aF => exact (fun k_ hk => Kd.fresh' (Kd.R_lt (by (with_reducible repeat (first | apply Kd.R_alloc | apply Kd.R_drewN | apply Kd.R_drew)); exact HO_6.out)) k_ hk))
                        (case aO => exact (by (with_reducible repeat (first | apply Kd.R_alloc | apply Kd.R_drewN | apply Kd.R_drew)); exact Kd.R_mono HO494.out (fun _ hk => hk.2)))
                        (case aS => exact (below_size (by repeat (first | (with_reducible first | exact HB.out | apply below_alloc | apply pw_below_drewN | apply below_drew1) | exact HB.out))))
                        (case aL => have := LMc4.out; omega)
                        intro v496 w15 ho hb hg hat
                        rw [← Ny495.out] at ho
                        have n0_ := Aside0.mk (Kd.R_after (ok := (fun _ => True)) (by (with_reducible repeat (first | apply Kd.R_alloc | apply Kd.R_drewN | apply Kd.R_drew)); exact HO_6.out) hg hat)
                        have n1_ := Aside0.mk (hb)
                        have n2_ := Aside0.mk (ho)
                        clear HO_6
                        clear HB
                        clear HO494
                        have HO_6 := n0_
                        have HB := n1_
                        have HO497 := n2_
                        clear n0_ n1_ n2_
                        clear ho hb hg hat
                        refine hK.out _ _ (((HB.out.cell (World.block_lt_of_cell? w _ hw506_0)).trans hw506_0)) (fun hHeld => ?_)
                        clear hK K
                        refine norm_ (a' := ?_) ?_ ?_
                        rotate_left
                        · show Act.put _ (some 19) _ = _
                          simp only [Act.put, List.setIfInBounds_toArray, List.set_cons_zero, List.set_cons_succ, i64_w, i32_w]
                          rfl
                        refine one_ (i := 3) (N := some 20) #[true, true, true, true, false, true, true, true, false, false, true, true, true, true, false] rfl rfl (one_of HT_.out (by kernel_rfl)) (by decide) (fun K hK => ?_)
                        refine Kd.R_lit_step (Kd.int .u8) _ 5 ?hg (N := 20) ?hd (xs := ([0] : List Int)) (inner := [.int .u8 0]) (ok := fun _ => True) (okp := fun _ => True) ?hr ?hp (fun _ hk => hk) trivial (Below.refl _ _) (Nat.le_refl _) (by simp) ?_; (case hd => rfl); (case hg => rfl); (case hr => first | (go_simp; done) | (go_simp; rfl)); (case hp => exact (Reps.one (show Kd.M (Kd.int .u8) _ _ _ 0 [.int .u8 0] from rfl) (Reps.none _ _)))
                        intro v499 w16 ho17 hb hg_ hnew_
                        clear hg_ hnew_
                        (first | rw [← Ny498.out] at ho17 | (simp only [Int.reduceToNat] at ho17; rw [← Ny498.out] at ho17))
                        have n0_ := Aside0.mk (Kd.R_elder' (by (with_reducible repeat (first | apply Kd.R_alloc | apply Kd.R_drewN | apply Kd.R_drew)); exact HO_6.out) (Kd.R_base ho17) hb)
                        have n1_ := Aside0.mk (Kd.R_elder' (by (with_reducible repeat (first | apply Kd.R_alloc | apply Kd.R_drewN | apply Kd.R_drew)); exact HO497.out) (Kd.R_base ho17) hb)
                        have n2_ := Aside0.mk (Kd.R_lower (Kd.R_new' (Kd.R_new' ho17 (Kd.R_lt (by (with_reducible repeat (first | apply Kd.R_alloc | apply Kd.R_drewN | apply Kd.R_drew)); exact HO_6.out))) (Kd.R_lt (by (with_reducible repeat (first | apply Kd.R_alloc | apply Kd.R_drewN | apply Kd.R_drew)); exact HO497.out))) (below_size (by repeat (first | (with_reducible first | exact HB.out | apply below_alloc | apply pw_below_drewN | apply below_drew1) | exact HB.out))))
                        have n3_ := Aside0.mk (below_step (by repeat (first | (with_reducible first | exact HB.out | apply below_alloc | apply pw_below_drewN | apply below_drew1) | exact HB.out)) hb)
                        clear HO_6
                        clear HO497
                        clear HB
                        have HO_6 := n0_
                        have HO497 := n1_
                        have HO500 := n2_
                        have HB := n3_
                        clear n0_ n1_ n2_ n3_
                        clear hb ho17
                        refine hK.out _ _ (((HB.out.cell (World.block_lt_of_cell? w _ hw506_0)).trans hw506_0)) (fun hHeld => ?_)
                        clear hK K
                        refine norm_ (a' := ?_) ?_ ?_
                        rotate_left
                        · show Act.put _ (some 20) _ = _
                          simp only [Act.put, List.setIfInBounds_toArray, List.set_cons_zero, List.set_cons_succ, i64_w, i32_w]
                          rfl
                        exact norm_ (by simp only [putAll, Act.put, List.setIfInBounds_toArray, List.set_cons_zero, List.set_cons_succ]) (hCont (v493, v496, v499) _ ⟨hHeld, (by (with_reducible repeat (first | apply Kd.R_alloc | apply Kd.R_drewN | apply Kd.R_drew)); exact Kd.R_mono HO497.out (fun _ hk => by first | exact ⟨hk.2, hk.1⟩ | ((repeat' constructor) <;> (first | exact hk | exact hk.1 | exact hk.2 | exact hk.1.1 | exact hk.1.2 | exact hk.2.1 | exact hk.2.2 | exact hk.2.2.1 | exact hk.2.2.2 | exact hk.1.2.1 | exact hk.1.2.2 | exact hk.2.1.1 | exact hk.2.1.2 | exact hk.1.1.1 | exact hk.1.1.2)))), (by (with_reducible repeat (first | apply Kd.R_alloc | apply Kd.R_drewN | apply Kd.R_drew)); exact Kd.R_mono HO500.out (fun _ hk => by first | exact ⟨hk.2, hk.1.2⟩ | ((repeat' constructor) <;> (first | exact hk | exact hk.1 | exact hk.2 | exact hk.1.1 | exact hk.1.2 | exact hk.2.1 | exact hk.2.2 | exact hk.2.2.1 | exact hk.2.2.2 | exact hk.1.2.1 | exact hk.1.2.2 | exact hk.2.1.1 | exact hk.2.1.2 | exact hk.1.1.1 | exact hk.1.1.2)))), (by (with_reducible repeat (first | apply Kd.R_alloc | apply Kd.R_drewN | apply Kd.R_drew)); exact Kd.R_mono HO_6.out (fun _ hk => by first | exact ⟨hk.1.2, hk.2⟩ | ((repeat' constructor) <;> (first | exact hk | exact hk.1 | exact hk.2 | exact hk.1.1 | exact hk.1.2 | exact hk.2.1 | exact hk.2.2 | exact hk.2.2.1 | exact hk.2.2.2 | exact hk.1.2.1 | exact hk.1.2.2 | exact hk.2.1.1 | exact hk.2.1.2 | exact hk.1.1.1 | exact hk.1.1.2)))), (by repeat (first | (with_reducible first | exact HB.out | apply below_alloc | apply pw_below_drewN | apply below_drew1) | exact HB.out))⟩)
                      · skip
                        refine Kd.R_lit_step (Kd.int .u8) _ 5 ?hg (N := 20) ?hd (xs := ([0] : List Int)) (inner := [.int .u8 0]) (ok := fun _ => True) (okp := fun _ => True) ?hr ?hp (fun _ hk => hk) trivial (Below.refl _ _) (Nat.le_refl _) (by simp) ?_; (case hd => rfl); (case hg => rfl); (case hr => first | (go_simp; done) | (go_simp; rfl)); (case hp => exact (Reps.one (show Kd.M (Kd.int .u8) _ _ _ 0 [.int .u8 0] from rfl) (Reps.none _ _)))
                        intro v499 w15 ho16 hb hg_ hnew_
                        clear hg_ hnew_
                        (first | rw [← Ny498.out] at ho16 | (simp only [Int.reduceToNat] at ho16; rw [← Ny498.out] at ho16))
                        have n0_ := Aside0.mk (Kd.R_elder' (by (with_reducible repeat (first | apply Kd.R_alloc | apply Kd.R_drewN | apply Kd.R_drew)); exact HO_6.out) (Kd.R_base ho16) hb)
                        have n1_ := Aside0.mk (Kd.R_elder' (by (with_reducible repeat (first | apply Kd.R_alloc | apply Kd.R_drewN | apply Kd.R_drew)); exact HO494.out) (Kd.R_base ho16) hb)
                        have n2_ := Aside0.mk (Kd.R_lower (Kd.R_new' (Kd.R_new' ho16 (Kd.R_lt (by (with_reducible repeat (first | apply Kd.R_alloc | apply Kd.R_drewN | apply Kd.R_drew)); exact HO_6.out))) (Kd.R_lt (by (with_reducible repeat (first | apply Kd.R_alloc | apply Kd.R_drewN | apply Kd.R_drew)); exact HO494.out))) (below_size (by repeat (first | (with_reducible first | exact HB.out | apply below_alloc | apply pw_below_drewN | apply below_drew1) | exact HB.out))))
                        have n3_ := Aside0.mk (below_step (by repeat (first | (with_reducible first | exact HB.out | apply below_alloc | apply pw_below_drewN | apply below_drew1) | exact HB.out)) hb)
                        clear HO_6
                        clear HO494
                        clear HB
                        have HO_6 := n0_
                        have HO494 := n1_
                        have HO500 := n2_
                        have HB := n3_
                        clear n0_ n1_ n2_ n3_
                        clear hb ho16
                        refine hK.out _ _ (((HB.out.cell (World.block_lt_of_cell? w _ hw506_0)).trans hw506_0)) (fun hHeld => ?_)
                        clear hK K
                        refine norm_ (a' := ?_) ?_ ?_
                        rotate_left
                        · show Act.put _ (some 20) _ = _
                          simp only [Act.put, List.setIfInBounds_toArray, List.set_cons_zero, List.set_cons_succ, i64_w, i32_w]
                          rfl
                        refine one_ (i := 2) (N := some 19) #[true, true, true, true, false, true, true, true, false, false, true, true, true, true, false] rfl rfl (one_of HT_.out (by kernel_rfl)) (by decide) (fun K hK => ?_)
                        refine Kd.R_append_rows_step (Kd.int .u8) (w0 := w) w.heap.size (by rfl) (.tmp 17) (.tmp 18) 35 5 (.int .u8 0) 1 rfl Tryd.underlying35 info5 rfl (by decide) (by omega) v493 y492 x6_1 _ _ _ (fun k_ => some k_ ≠ (.slice Ao11 x6_1.length co11 : Value).ownBlock ∧ some k_ ≠ (v499 : Value).ownBlock) (fun _ => False) rfl rfl ?aO ?aR (fun _ _ h => h) (fun _ h => h.elim) ?aF ?aB ?aS ?aL ?_
                        (case aR => repeat (first | exact (Kd.R_reads' HO_6.out).2.2 | (with_reducible refine Kd.C_alloc ?_ _) | (with_reducible refine Kd.C_drewN ?_ _) | (with_reducible refine Kd.C_drew ?_)))
                        (case aB => exact (by repeat (first | (with_reducible first | exact HB.out | apply below_alloc | apply pw_below_drewN | apply below_drew1) | exact HB.out)))
                        (case aF => exact (fun k_ hk => ⟨Kd.fresh' (Kd.R_lt (by (with_reducible repeat (first | apply Kd.R_alloc | apply Kd.R_drewN | apply Kd.R_drew)); exact HO_6.out)) k_ hk, Kd.fresh' (Kd.R_lt (by (with_reducible repeat (first | apply Kd.R_alloc | apply Kd.R_drewN | apply Kd.R_drew)); exact HO500.out)) k_ hk⟩))
                        (case aO => exact (by (with_reducible repeat (first | apply Kd.R_alloc | apply Kd.R_drewN | apply Kd.R_drew)); exact Kd.R_mono HO494.out (fun _ hk => by first | exact ⟨hk.1.2, hk.2⟩ | ((repeat' constructor) <;> (first | exact hk | exact hk.1 | exact hk.2 | exact hk.1.1 | exact hk.1.2 | exact hk.2.1 | exact hk.2.2 | exact hk.2.2.1 | exact hk.2.2.2 | exact hk.1.2.1 | exact hk.1.2.2 | exact hk.2.1.1 | exact hk.2.1.2 | exact hk.1.1.1 | exact hk.1.1.2)))))
                        (case aS => exact (below_size (by repeat (first | (with_reducible first | exact HB.out | apply below_alloc | apply pw_below_drewN | apply below_drew1) | exact HB.out))))
                        (case aL => have := LMc4.out; omega)
                        intro v496 w17 ho hb hg hat
                        rw [← Ny495.out] at ho
                        have n0_ := Aside0.mk (Kd.R_after (ok := (fun k_ => some k_ ≠ (v499 : Value).ownBlock)) (by (with_reducible repeat (first | apply Kd.R_alloc | apply Kd.R_drewN | apply Kd.R_drew)); exact Kd.R_mono HO_6.out (fun _ hk => by first | exact ⟨hk.2, hk.1.2⟩ | ((repeat' constructor) <;> (first | exact hk | exact hk.1 | exact hk.2 | exact hk.1.1 | exact hk.1.2 | exact hk.2.1 | exact hk.2.2 | exact hk.2.2.1 | exact hk.2.2.2 | exact hk.1.2.1 | exact hk.1.2.2 | exact hk.2.1.1 | exact hk.2.1.2 | exact hk.1.1.1 | exact hk.1.1.2)))) hg hat)
                        have n1_ := Aside0.mk (Kd.R_after (ok := (fun k_ => some k_ ≠ (.slice Ao11 x6_1.length co11 : Value).ownBlock)) (by (with_reducible repeat (first | apply Kd.R_alloc | apply Kd.R_drewN | apply Kd.R_drew)); exact Kd.R_mono HO500.out (fun _ hk => by first | exact ⟨hk.1.2, hk.2⟩ | ((repeat' constructor) <;> (first | exact hk | exact hk.1 | exact hk.2 | exact hk.1.1 | exact hk.1.2 | exact hk.2.1 | exact hk.2.2 | exact hk.2.2.1 | exact hk.2.2.2 | exact hk.1.2.1 | exact hk.1.2.2 | exact hk.2.1.1 | exact hk.2.1.2 | exact hk.1.1.1 | exact hk.1.1.2)))) hg hat)
                        have n2_ := Aside0.mk (hb)
                        have n3_ := Aside0.mk (ho)
                        clear HO_6
                        clear HO500
                        clear HB
                        clear HO494
                        have HO_6 := n0_
                        have HO500 := n1_
                        have HB := n2_
                        have HO497 := n3_
                        clear n0_ n1_ n2_ n3_
                        clear ho hb hg hat
                        refine hK.out _ _ (((HB.out.cell (World.block_lt_of_cell? w _ hw506_0)).trans hw506_0)) (fun hHeld => ?_)
                        clear hK K
                        refine norm_ (a' := ?_) ?_ ?_
                        rotate_left
                        · show Act.put _ (some 19) _ = _
                          simp only [Act.put, List.setIfInBounds_toArray, List.set_cons_zero, List.set_cons_succ, i64_w, i32_w]
                          rfl
                        exact norm_ (by simp only [putAll, Act.put, List.setIfInBounds_toArray, List.set_cons_zero, List.set_cons_succ]) (hCont (v493, v496, v499) _ ⟨hHeld, (by (with_reducible repeat (first | apply Kd.R_alloc | apply Kd.R_drewN | apply Kd.R_drew)); exact Kd.R_mono HO497.out (fun _ hk => by first | exact ⟨hk.2, hk.1⟩ | ((repeat' constructor) <;> (first | exact hk | exact hk.1 | exact hk.2 | exact hk.1.1 | exact hk.1.2 | exact hk.2.1 | exact hk.2.2 | exact hk.2.2.1 | exact hk.2.2.2 | exact hk.1.2.1 | exact hk.1.2.2 | exact hk.2.1.1 | exact hk.2.1.2 | exact hk.1.1.1 | exact hk.1.1.2)))), (by (with_reducible repeat (first | apply Kd.R_alloc | apply Kd.R_drewN | apply Kd.R_drew)); exact Kd.R_mono HO500.out (fun _ hk => by first | exact ⟨hk.2, hk.1⟩ | ((repeat' constructor) <;> (first | exact hk | exact hk.1 | exact hk.2 | exact hk.1.1 | exact hk.1.2 | exact hk.2.1 | exact hk.2.2 | exact hk.2.2.1 | exact hk.2.2.2 | exact hk.1.2.1 | exact hk.1.2.2 | exact hk.2.1.1 | exact hk.2.1.2 | exact hk.1.1.1 | exact hk.1.1.2)))), (by (with_reducible repeat (first | apply Kd.R_alloc | apply Kd.R_drewN | apply Kd.R_drew)); exact Kd.R_mono HO_6.out (fun _ hk => by first | exact ⟨hk.2, hk.1⟩ | ((repeat' constructor) <;> (first | exact hk | exact hk.1 | exact hk.2 | exact hk.1.1 | exact hk.1.2 | exact hk.2.1 | exact hk.2.2 | exact hk.2.2.1 | exact hk.2.2.2 | exact hk.1.2.1 | exact hk.1.2.2 | exact hk.2.1.1 | exact hk.2.1.2 | exact hk.1.1.1 | exact hk.1.1.2)))), (by repeat (first | (with_reducible first | exact HB.out | apply below_alloc | apply pw_below_drewN | apply below_drew1) | exact HB.out))⟩)
                    · skip
                      refine Kd.R_lit_step (Kd.int .u8) _ 5 ?hg (N := 20) ?hd (xs := ([0] : List Int)) (inner := [.int .u8 0]) (ok := fun _ => True) (okp := fun _ => True) ?hr ?hp (fun _ hk => hk) trivial (Below.refl _ _) (Nat.le_refl _) (by simp) ?_; (case hd => rfl); (case hg => rfl); (case hr => first | (go_simp; done) | (go_simp; rfl)); (case hp => exact (Reps.one (show Kd.M (Kd.int .u8) _ _ _ 0 [.int .u8 0] from rfl) (Reps.none _ _)))
                      intro v499 w13 ho14 hb hg_ hnew_
                      clear hg_ hnew_
                      (first | rw [← Ny498.out] at ho14 | (simp only [Int.reduceToNat] at ho14; rw [← Ny498.out] at ho14))
                      have n0_ := Aside0.mk (Kd.R_elder' (by (with_reducible repeat (first | apply Kd.R_alloc | apply Kd.R_drewN | apply Kd.R_drew)); exact HO_6.out) (Kd.R_base ho14) hb)
                      have n1_ := Aside0.mk (Kd.R_lower (Kd.R_new' ho14 (Kd.R_lt (by (with_reducible repeat (first | apply Kd.R_alloc | apply Kd.R_drewN | apply Kd.R_drew)); exact HO_6.out))) (below_size (by repeat (first | (with_reducible first | exact HB.out | apply below_alloc | apply pw_below_drewN | apply below_drew1) | exact HB.out))))
                      have n2_ := Aside0.mk (below_step (by repeat (first | (with_reducible first | exact HB.out | apply below_alloc | apply pw_below_drewN | apply below_drew1) | exact HB.out)) hb)
                      clear HO_6
                      clear HB
                      have HO_6 := n0_
                      have HO500 := n1_
                      have HB := n2_
                      clear n0_ n1_ n2_
                      clear hb ho14
                      refine hK.out _ _ (((HB.out.cell (World.block_lt_of_cell? w _ hw506_0)).trans hw506_0)) (fun hHeld => ?_)
                      clear hK K
                      refine norm_ (a' := ?_) ?_ ?_
                      rotate_left
                      · show Act.put _ (some 20) _ = _
                        simp only [Act.put, List.setIfInBounds_toArray, List.set_cons_zero, List.set_cons_succ, i64_w, i32_w]
                        rfl
                      refine one_ (i := 0) (N := some 17) #[true, true, false, true, false, true, true, true, false, false, true, true, true, true, false] rfl rfl (one_of HT_.out (by kernel_rfl)) (by decide) (fun K hK => ?_)
                      refine Kd.R_lit_step (Kd.int .u8) _ 5 ?hg (N := 17) ?hd (xs := ([] : List Int)) (inner := []) (ok := fun _ => True) (okp := fun _ => True) ?hr ?hp (fun _ hk => hk) trivial (Below.refl _ _) (Nat.le_refl _) (by simp) ?_; (case hd => rfl); (case hg => rfl); (case hr => first | (go_simp; done) | (go_simp; rfl)); (case hp => exact (Reps.none _ _))
                      intro v493 w15 ho16 hb hg_ hnew_
                      clear hg_ hnew_
                      (first | rw [← Ny492.out] at ho16 | (simp only [Int.reduceToNat] at ho16; rw [← Ny492.out] at ho16))
                      have n0_ := Aside0.mk (Kd.R_elder' (by (with_reducible repeat (first | apply Kd.R_alloc | apply Kd.R_drewN | apply Kd.R_drew)); exact HO_6.out) (Kd.R_base ho16) hb)
                      have n1_ := Aside0.mk (Kd.R_elder' (by (with_reducible repeat (first | apply Kd.R_alloc | apply Kd.R_drewN | apply Kd.R_drew)); exact HO500.out) (Kd.R_base ho16) hb)
                      have n2_ := Aside0.mk (Kd.R_lower (Kd.R_new' (Kd.R_new' ho16 (Kd.R_lt (by (with_reducible repeat (first | apply Kd.R_alloc | apply Kd.R_drewN | apply Kd.R_drew)); exact HO_6.out))) (Kd.R_lt (by (with_reducible repeat (first | apply Kd.R_alloc | apply Kd.R_drewN | apply Kd.R_drew)); exact HO500.out))) (below_size (by repeat (first | (with_reducible first | exact HB.out | apply below_alloc | apply pw_below_drewN | apply below_drew1) | exact HB.out))))
                      have n3_ := Aside0.mk (below_step (by repeat (first | (with_reducible first | exact HB.out | apply below_alloc | apply pw_below_drewN | apply below_drew1) | exact HB.out)) hb)
                      clear HO_6
                      clear HO500
                      clear HB
                      have HO_6 := n0_
                      have HO500 := n1_
                      have HO494 := n2_
                      have HB := n3_
                      clear n0_ n1_ n2_ n3_
                      clear hb ho16
                      refine hK.out _ _ (((HB.out.cell (World.block_lt_of_cell? w _ hw506_0)).trans hw506_0)) (fun hHeld => ?_)
                      clear hK K
                      refine norm_ (a' := ?_) ?_ ?_
                      rotate_left
                      · show Act.put _ (some 17) _ = _
                        simp only [Act.put, List.setIfInBounds_toArray, List.set_cons_zero, List.set_cons_succ, i64_w, i32_w]
                        rfl
                      refine one_ (i := 2) (N := some 19) #[true, true, true, true, false, true, true, true, false, false, true, true, true, true, false] rfl rfl (one_of HT_.out (by kernel_rfl)) (by decide) (fun K hK => ?_)
                      refine Kd.R_append_rows_step (Kd.int .u8) (w0 := w) w.heap.size (by rfl) (.tmp 17) (.tmp 18) 35 5 (.int .u8 0) 1 rfl Tryd.underlying35 info5 rfl (by decide) (by omega) v493 y492 x6_1 _ _ _ (fun k_ => some k_ ≠ (.slice Ao11 x6_1.length co11 : Value).ownBlock ∧ some k_ ≠ (v499 : Value).ownBlock) (fun _ => False) rfl rfl ?aO ?aR (fun _ _ h => h) (fun _ h => h.elim) ?aF ?aB ?aS ?aL ?_
                      (case aR => repeat (first | exact (Kd.R_reads' HO_6.out).2.2 | (with_reducible refine Kd.C_alloc ?_ _) | (with_reducible refine Kd.C_drewN ?_ _) | (with_reducible refine Kd.C_drew ?_)))
                      (case aB => exact (by repeat (first | (with_reducible first | exact HB.out | apply below_alloc | apply pw_below_drewN | apply below_drew1) | exact HB.out)))
                      (case aF => exact (fun k_ hk => ⟨Kd.fresh' (Kd.R_lt (by (with_reducible repeat (first | apply Kd.R_alloc | apply Kd.R_drewN | apply Kd.R_drew)); exact HO_6.out)) k_ hk, Kd.fresh' (Kd.R_lt (by (with_reducible repeat (first | apply Kd.R_alloc | apply Kd.R_drewN | apply Kd.R_drew)); exact HO500.out)) k_ hk⟩))
                      (case aO => exact (by (with_reducible repeat (first | apply Kd.R_alloc | apply Kd.R_drewN | apply Kd.R_drew)); exact Kd.R_mono HO494.out (fun _ hk => by first | exact ⟨hk.1.2, hk.2⟩ | ((repeat' constructor) <;> (first | exact hk | exact hk.1 | exact hk.2 | exact hk.1.1 | exact hk.1.2 | exact hk.2.1 | exact hk.2.2 | exact hk.2.2.1 | exact hk.2.2.2 | exact hk.1.2.1 | exact hk.1.2.2 | exact hk.2.1.1 | exact hk.2.1.2 | exact hk.1.1.1 | exact hk.1.1.2)))))
                      (case aS => exact (below_size (by repeat (first | (with_reducible first | exact HB.out | apply below_alloc | apply pw_below_drewN | apply below_drew1) | exact HB.out))))
                      (case aL => have := LMc4.out; omega)
                      intro v496 w17 ho hb hg hat
                      rw [← Ny495.out] at ho
                      have n0_ := Aside0.mk (Kd.R_after (ok := (fun k_ => some k_ ≠ (v499 : Value).ownBlock)) (by (with_reducible repeat (first | apply Kd.R_alloc | apply Kd.R_drewN | apply Kd.R_drew)); exact Kd.R_mono HO_6.out (fun _ hk => by first | exact ⟨hk.1.2, hk.2⟩ | ((repeat' constructor) <;> (first | exact hk | exact hk.1 | exact hk.2 | exact hk.1.1 | exact hk.1.2 | exact hk.2.1 | exact hk.2.2 | exact hk.2.2.1 | exact hk.2.2.2 | exact hk.1.2.1 | exact hk.1.2.2 | exact hk.2.1.1 | exact hk.2.1.2 | exact hk.1.1.1 | exact hk.1.1.2)))) hg hat)
                      have n1_ := Aside0.mk (Kd.R_after (ok := (fun k_ => some k_ ≠ (.slice Ao11 x6_1.length co11 : Value).ownBlock)) (by (with_reducible repeat (first | apply Kd.R_alloc | apply Kd.R_drewN | apply Kd.R_drew)); exact Kd.R_mono HO500.out (fun _ hk => by first | exact ⟨hk.1.2, hk.2⟩ | ((repeat' constructor) <;> (first | exact hk | exact hk.1 | exact hk.2 | exact hk.1.1 | exact hk.1.2 | exact hk.2.1 | exact hk.2.2 | exact hk.2.2.1 | exact hk.2.2.2 | exact hk.1.2.1 | exact hk.1.2.2 | exact hk.2.1.1 | exact hk.2.1.2 | exact hk.1.1.1 | exact hk.1.1.2)))) hg hat)
                      have n2_ := Aside0.mk (hb)
                      have n3_ := Aside0.mk (ho)
                      clear HO_6
                      clear HO500
                      clear HB
                      clear HO494
                      have HO_6 := n0_
                      have HO500 := n1_
                      have HB := n2_
                      have HO497 := n3_
                      clear n0_ n1_ n2_ n3_
                      clear ho hb hg hat
                      refine hK.out _ _ (((HB.out.cell (World.block_lt_of_cell? w _ hw506_0)).trans hw506_0)) (fun hHeld => ?_)
                      clear hK K
                      refine norm_ (a' := ?_) ?_ ?_
                      rotate_left
                      · show Act.put _ (some 19) _ = _
                        simp only [Act.put, List.setIfInBounds_toArray, List.set_cons_zero, List.set_cons_succ, i64_w, i32_w]
                        rfl
                      exact norm_ (by simp only [putAll, Act.put, List.setIfInBounds_toArray, List.set_cons_zero, List.set_cons_succ]) (hCont (v493, v496, v499) _ ⟨hHeld, (by (with_reducible repeat (first | apply Kd.R_alloc | apply Kd.R_drewN | apply Kd.R_drew)); exact Kd.R_mono HO497.out (fun _ hk => by first | exact ⟨hk.2, hk.1⟩ | ((repeat' constructor) <;> (first | exact hk | exact hk.1 | exact hk.2 | exact hk.1.1 | exact hk.1.2 | exact hk.2.1 | exact hk.2.2 | exact hk.2.2.1 | exact hk.2.2.2 | exact hk.1.2.1 | exact hk.1.2.2 | exact hk.2.1.1 | exact hk.2.1.2 | exact hk.1.1.1 | exact hk.1.1.2)))), (by (with_reducible repeat (first | apply Kd.R_alloc | apply Kd.R_drewN | apply Kd.R_drew)); exact Kd.R_mono HO500.out (fun _ hk => by first | exact ⟨hk.2, hk.1⟩ | ((repeat' constructor) <;> (first | exact hk | exact hk.1 | exact hk.2 | exact hk.1.1 | exact hk.1.2 | exact hk.2.1 | exact hk.2.2 | exact hk.2.2.1 | exact hk.2.2.2 | exact hk.1.2.1 | exact hk.1.2.2 | exact hk.2.1.1 | exact hk.2.1.2 | exact hk.1.1.1 | exact hk.1.1.2)))), (by (with_reducible repeat (first | apply Kd.R_alloc | apply Kd.R_drewN | apply Kd.R_drew)); exact Kd.R_mono HO_6.out (fun _ hk => by first | exact ⟨hk.2, hk.1⟩ | ((repeat' constructor) <;> (first | exact hk | exact hk.1 | exact hk.2 | exact hk.1.1 | exact hk.1.2 | exact hk.2.1 | exact hk.2.2 | exact hk.2.2.1 | exact hk.2.2.2 | exact hk.1.2.1 | exact hk.1.2.2 | exact hk.2.1.1 | exact hk.2.1.2 | exact hk.1.1.1 | exact hk.1.1.2)))), (by repeat (first | (with_reducible first | exact HB.out | apply below_alloc | apply pw_below_drewN | apply below_drew1) | exact HB.out))⟩)
                  rintro ⟨v493, v496, v499⟩ w18 ⟨hS_, h0_, h1_, h2_, h3_⟩
                  have n0_ : Aside0 (Kd.R (Kd.int .u8) 5 w18 w.heap.size (fun k_ => some k_ ≠ (v499 : Value).ownBlock ∧ some k_ ≠ (.slice Ao11 x6_1.length co11 : Value).ownBlock) v496 y495) := ⟨h0_⟩
                  have n1_ : Aside0 (Kd.R (Kd.int .u8) 5 w18 w.heap.size (fun k_ => some k_ ≠ (v496 : Value).ownBlock ∧ some k_ ≠ (.slice Ao11 x6_1.length co11 : Value).ownBlock) v499 y498) := ⟨h1_⟩
                  have n2_ : Aside0 (Kd.R (Kd.int .u8) 5 w18 w.heap.size (fun k_ => some k_ ≠ (v496 : Value).ownBlock ∧ some k_ ≠ (v499 : Value).ownBlock) (.slice Ao11 x6_1.length co11) x6_1) := ⟨h2_⟩
                  have n3_ : Aside0 (Below w.heap.size w w18) := ⟨h3_⟩
                  clear HO_6
                  clear HB
                  clear h0_ h1_ h2_ h3_
                  have HO497 := n0_
                  have HO500 := n1_
                  have HO_6 := n2_
                  have HB := n3_
                  clear n0_ n1_ n2_ n3_
                  have hHeld : w18.cell? (ad506.add (x7_1).toNat) = some (.int .u8 (rd l0 x7_1)) := hS_
                  obtain ⟨Ao20, co20, eo20⟩ := Kd.R_slice HO500.out
                  (first | subst eo20 | (injection eo20 with f1_ f2_ f3_; have f4_ := f1_.symm; have f5_ := f3_.symm; clear f1_ f2_ f3_; subst f4_; subst f5_))
                  refine norm_ (a' := ?_) ?_ ?_
                  rotate_left
                  · simp only [putAll, Act.put, List.setIfInBounds_toArray, List.set_cons_zero, List.set_cons_succ]
                    rfl
                  refine one_ (i := 4) (N := some 21) #[true, true, true, true, true, true, true, true, false, false, true, true, true, true, false] rfl rfl (one_of HT_.out (by kernel_rfl)) (by decide) (fun K hK => ?_)
                  refine Kd.R_append_rows_step (Kd.int .u8) (w0 := w) w.heap.size (by rfl) (.tmp 19) (.tmp 20) 35 5 (.int .u8 0) 1 rfl Tryd.underlying35 info5 rfl (by decide) (by omega) v496 y495 y498 _ _ _ (fun k_ => some k_ ≠ (.slice Ao11 x6_1.length co11 : Value).ownBlock ∧ some k_ ≠ (.slice Ao20 y498.length co20 : Value).ownBlock) (fun _ => False) rfl rfl ?aO ?aR (fun _ _ h => h) (fun _ h => h.elim) ?aF ?aB ?aS ?aL ?_
                  (case aR => repeat (first | exact (Kd.R_reads' HO500.out).2.2 | (with_reducible refine Kd.C_alloc ?_ _) | (with_reducible refine Kd.C_drewN ?_ _) | (with_reducible refine Kd.C_drew ?_)))
                  (case aB => exact (by repeat (first | (with_reducible first | exact HB.out | apply below_alloc | apply pw_below_drewN | apply below_drew1) | exact HB.out)))
                  (case aF => exact (fun k_ hk => ⟨Kd.fresh' (Kd.R_lt (by (with_reducible repeat (first | apply Kd.R_alloc | apply Kd.R_drewN | apply Kd.R_drew)); exact HO_6.out)) k_ hk, Kd.fresh' (Kd.R_lt (by (with_reducible repeat (first | apply Kd.R_alloc | apply Kd.R_drewN | apply Kd.R_drew)); exact HO500.out)) k_ hk⟩))
                  (case aO => exact (by (with_reducible repeat (first | apply Kd.R_alloc | apply Kd.R_drewN | apply Kd.R_drew)); exact Kd.R_mono HO497.out (fun _ hk => by first | exact ⟨hk.2, hk.1⟩ | ((repeat' constructor) <;> (first | exact hk | exact hk.1 | exact hk.2 | exact hk.1.1 | exact hk.1.2 | exact hk.2.1 | exact hk.2.2 | exact hk.2.2.1 | exact hk.2.2.2 | exact hk.1.2.1 | exact hk.1.2.2 | exact hk.2.1.1 | exact hk.2.1.2 | exact hk.1.1.1 | exact hk.1.1.2)))))
                  (case aS => exact (below_size (by repeat (first | (with_reducible first | exact HB.out | apply below_alloc | apply pw_below_drewN | apply below_drew1) | exact HB.out))))
                  (case aL => have := LMc5.out; omega)
                  intro v502 w19 ho hb hg hat
                  rw [← Ny501.out] at ho
                  have n0_ := Aside0.mk (Kd.R_after (ok := (fun k_ => some k_ ≠ (.slice Ao20 y498.length co20 : Value).ownBlock)) (by (with_reducible repeat (first | apply Kd.R_alloc | apply Kd.R_drewN | apply Kd.R_drew)); exact Kd.R_mono HO_6.out (fun _ hk => by first | exact ⟨hk.2, hk.1⟩ | ((repeat' constructor) <;> (first | exact hk | exact hk.1 | exact hk.2 | exact hk.1.1 | exact hk.1.2 | exact hk.2.1 | exact hk.2.2 | exact hk.2.2.1 | exact hk.2.2.2 | exact hk.1.2.1 | exact hk.1.2.2 | exact hk.2.1.1 | exact hk.2.1.2 | exact hk.1.1.1 | exact hk.1.1.2)))) hg hat)
                  have n1_ := Aside0.mk (Kd.R_after (ok := (fun k_ => some k_ ≠ (.slice Ao11 x6_1.length co11 : Value).ownBlock)) (by (with_reducible repeat (first | apply Kd.R_alloc | apply Kd.R_drewN | apply Kd.R_drew)); exact Kd.R_mono HO500.out (fun _ hk => by first | exact ⟨hk.2, hk.1⟩ | ((repeat' constructor) <;> (first | exact hk | exact hk.1 | exact hk.2 | exact hk.1.1 | exact hk.1.2 | exact hk.2.1 | exact hk.2.2 | exact hk.2.2.1 | exact hk.2.2.2 | exact hk.1.2.1 | exact hk.1.2.2 | exact hk.2.1.1 | exact hk.2.1.2 | exact hk.1.1.1 | exact hk.1.1.2)))) hg hat)
                  have n2_ := Aside0.mk (hb)
                  have n3_ := Aside0.mk (ho)
                  clear HO_6
                  clear HO500
                  clear HB
                  clear HO497
                  have HO_6 := n0_
                  have HO500 := n1_
                  have HB := n2_
                  have HO503 := n3_
                  clear n0_ n1_ n2_ n3_
                  clear ho hb hg hat
                  refine hK.out _ _ (((HB.out.cell (World.block_lt_of_cell? w _ hw506_0)).trans hw506_0)) (fun hHeld => ?_)
                  clear hK K
                  refine norm_ (a' := ?_) ?_ ?_
                  rotate_left
                  · show Act.put _ (some 21) _ = _
                    simp only [Act.put, List.setIfInBounds_toArray, List.set_cons_zero, List.set_cons_succ, i64_w, i32_w]
                    rfl
                  refine one_ (i := 8) (N := some 25) #[true, true, true, true, true, true, true, true, true, false, true, true, true, true, false] rfl rfl (one_of HT_.out (by kernel_rfl)) (by decide) (fun K hK => ?_)
                  refine goes_ Tryd.func37 (by kernel_rfl) rfl #[.int .i64 a1, .int .i64 x7_1] (by rfl) rfl rfl (by (try simp only [List.map_toArray, List.map_cons, List.map_nil]); first | done | rfl | (simp only [List.length_drop, List.length_take]; rfl)) ?_
                  with_reducible refine (shuttleref10_Stream.calls a1 x7_1 t504 _ A6.out).mono ?_
                  rintro e w' ⟨rfl, ⟨nd, rfl⟩⟩
                  refine ⟨_, rfl, ?_⟩
                  obtain ⟨Ao21, co21, eo21⟩ := Kd.R_slice HO503.out
                  (first | subst eo21 | (injection eo21 with f1_ f2_ f3_; have f4_ := f1_.symm; have f5_ := f3_.symm; clear f1_ f2_ f3_; subst f4_; subst f5_))
                  refine hK.out _ _ (((HB.out.cell (World.block_lt_of_cell? w _ hw506_0)).trans hw506_0)) (fun hHeld => ?_)
                  clear hK K
                  refine norm_ (a' := ?_) ?_ ?_
                  rotate_left
                  · show Act.put _ (some 25) _ = _
                    simp only [Act.put, List.setIfInBounds_toArray, List.set_cons_zero, List.set_cons_succ, i64_w, i32_w]
                    rfl
                  refine one_ (i := 9) (N := some 26) #[true, true, true, true, true, true, true, true, true, true, true, true, true, true, false] rfl rfl (one_of HT_.out (by kernel_rfl)) (by decide) (fun K hK => ?_)
                  refine goes_ Tryd.func27 (by kernel_rfl) rfl #[.slice Ao21 y501.length co21, .int .i64 x7_1, .int .i64 t504] (by rfl) rfl rfl (by (try simp only [List.map_toArray, List.map_cons, List.map_nil]); first | done | rfl | (simp only [List.length_drop, List.length_take]; rfl)) ?_
                  with_reducible refine (shuttleref06_Bit.calls _ _ y501 x7_1 t504 t505 _ ?side1 ?side2 A7.out).mono ?_
                  (case side1 => repeat (first | exact (Kd.R_reads' HO503.out).2.2 | (with_reducible refine Kd.C_alloc ?_ _) | (with_reducible refine Kd.C_drewN ?_ _) | (with_reducible refine Kd.C_drew ?_)))
                  (case side2 => exact (Kd.R_reads' HO503.out).2.1)
                  rintro e w22 ⟨rfl, hb⟩
                  refine ⟨_, rfl, ?_⟩
                  have n0_ := Aside0.mk (Kd.R_below (by (with_reducible repeat (first | apply Kd.R_alloc | apply Kd.R_drewN | apply Kd.R_drew)); exact HO_6.out) hb)
                  have n1_ := Aside0.mk (Kd.R_below (by (with_reducible repeat (first | apply Kd.R_alloc | apply Kd.R_drewN | apply Kd.R_drew)); exact HO500.out) hb)
                  have n2_ := Aside0.mk (Kd.R_below (by (with_reducible repeat (first | apply Kd.R_alloc | apply Kd.R_drewN | apply Kd.R_drew)); exact HO503.out) hb)
                  have n3_ := Aside0.mk (below_step (by repeat (first | (with_reducible first | exact HB.out | apply below_alloc | apply pw_below_drewN | apply below_drew1) | exact HB.out)) hb)
                  clear HO_6
                  clear HO500
                  clear HO503
                  clear HB
                  have HO_6 := n0_
                  have HO500 := n1_
                  have HO503 := n2_
                  have HB := n3_
                  clear n0_ n1_ n2_ n3_
                  (try clear hb)
                  (try clear hb2)
                  (try clear hk)
                  (try clear hi)
                  refine hK.out _ _ (((HB.out.cell (World.block_lt_of_cell? w _ hw506_0)).trans hw506_0)) (fun hHeld => ?_)
                  clear hK K
                  refine norm_ (a' := ?_) ?_ ?_
                  rotate_left
                  · show Act.put _ (some 26) _ = _
                    simp only [Act.put, List.setIfInBounds_toArray, List.set_cons_zero, List.set_cons_succ, i64_w, i32_w]
                    rfl
                  refine pure_ (i := 14) (N := some 31) (v := ?_) (a' := ?_) #[true, true, true, true, true, true, true, true, true, true, true, true, true, true, true] rfl rfl (any_of HT_.out (by kernel_rfl)) (fun _ _ _ h => h) (Or.inl ⟨by rfl, ?_⟩) ?_ ?_
                  rotate_left
                  · intro w'
                    go_simp
                    with_reducible rfl
                  rotate_left
                  · simp only [Act.put, List.setIfInBounds_toArray, List.set_cons_zero, List.set_cons_succ, i64_w, i32_w]
                    rfl
                  refine done_ (done_of HT_.out (by kernel_rfl)) ?_
                  try go_wp2_with (first | ((with_reducible refine gate_dst (N := 34) rfl ?_); refine Kd.R_lit (Kd.int .u8) _ 5 ?hg (N := 34) ?hd (xs := ([0] : List Int)) (inner := [.int .u8 0]) (ok := fun _ => True) (okp := fun _ => True) ?hr ?hp (fun _ hk => hk) trivial (Below.refl _ _) (Nat.le_refl _) (by simp) ?_; (case hd => rfl); (case hg => rfl); (case hr => first | (go_simp; done) | (go_simp; rfl)); (case hp => exact (Reps.one (show Kd.M (Kd.int .u8) _ _ _ 0 [.int .u8 0] from rfl) (Reps.none _ _))); intro v508 w23 ho24 hb hg_ hnew_; clear hg_ hnew_; (first | rw [← Ny507.out] at ho24 | (simp only [Int.reduceToNat] at ho24; rw [← Ny507.out] at ho24)); have n0_ := Aside0.mk (Kd.R_elder' (by (with_reducible repeat (first | apply Kd.R_alloc | apply Kd.R_drewN | apply Kd.R_drew)); exact HO_6.out) (Kd.R_base ho24) hb); have n1_ := Aside0.mk (Kd.R_elder' (by (with_reducible repeat (first | apply Kd.R_alloc | apply Kd.R_drewN | apply Kd.R_drew)); exact HO500.out) (Kd.R_base ho24) hb); have n2_ := Aside0.mk (Kd.R_elder' (by (with_reducible repeat (first | apply Kd.R_alloc | apply Kd.R_drewN | apply Kd.R_drew)); exact HO503.out) (Kd.R_base ho24) hb); have n3_ := Aside0.mk (Kd.R_lower (Kd.R_new' (Kd.R_new' (Kd.R_new' ho24 (Kd.R_lt (by (with_reducible repeat (first | apply Kd.R_alloc | apply Kd.R_drewN | apply Kd.R_drew)); exact HO_6.out))) (Kd.R_lt (by (with_reducible repeat (first | apply Kd.R_alloc | apply Kd.R_drewN | apply Kd.R_drew)); exact HO500.out))) (Kd.R_lt (by (with_reducible repeat (first | apply Kd.R_alloc | apply Kd.R_drewN | apply Kd.R_drew)); exact HO503.out))) (below_size (by repeat (first | (with_reducible first | exact HB.out | apply below_alloc | apply pw_below_drewN | apply below_drew1) | exact HB.out)))); have n4_ := Aside0.mk (below_step (by repeat (first | (with_reducible first | exact HB.out | apply below_alloc | apply pw_below_drewN | apply below_drew1) | exact HB.out)) hb); clear HO_6; clear HO500; clear HO503; clear HB; have HO_6 := n0_; have HO500 := n1_; have HO503 := n2_; have HO509 := n3_; have HB := n4_; clear n0_ n1_ n2_ n3_ n4_; clear hb ho24; obtain ⟨Ao26, co26, eo26⟩ := Kd.R_slice HO509.out; subst eo26) | ((with_reducible refine gate_builtin (b := .append) (xs := #[.tmp 32, .tmp 34]) rfl ?_); at_builtin; refine Kd.R_append_rows (Kd.int .u8) (w0 := w) w.heap.size rfl (.tmp 32) (.tmp 34) 35 5 (.int .u8 0) 1 rfl Tryd.underlying35 info5 rfl (by decide) (by omega) (.slice Ao11 x6_1.length co11) x6_1 y507 _ _ _ (fun k_ => some k_ ≠ (.slice Ao20 y498.length co20 : Value).ownBlock ∧ some k_ ≠ (.slice Ao21 y501.length co21 : Value).ownBlock ∧ some k_ ≠ (.slice Ao26 y507.length co26 : Value).ownBlock) (fun _ => False) rfl rfl ?aO ?aR (fun _ _ h => h) (fun _ h => h.elim) ?aF ?aB ?aS ?aL ?_; (case aR => repeat (first | exact (Kd.R_reads' HO509.out).2.2 | (with_reducible refine Kd.C_alloc ?_ _) | (with_reducible refine Kd.C_drewN ?_ _) | (with_reducible refine Kd.C_drew ?_))); (case aB => exact (by repeat (first | (with_reducible first | exact HB.out | apply below_alloc | apply pw_below_drewN | apply below_drew1) | exact HB.out))); (case aF => exact (fun k_ hk => ⟨Kd.fresh' (Kd.R_lt (by (with_reducible repeat (first | apply Kd.R_alloc | apply Kd.R_drewN | apply Kd.R_drew)); exact HO500.out)) k_ hk, Kd.fresh' (Kd.R_lt (by (with_reducible repeat (first | apply Kd.R_alloc | apply Kd.R_drewN | apply Kd.R_drew)); exact HO503.out)) k_ hk, Kd.fresh' (Kd.R_lt (by (with_reducible repeat (first | apply Kd.R_alloc | apply Kd.R_drewN | apply Kd.R_drew)); exact HO509.out)) k_ hk⟩)); (case aO => exact (by (with_reducible repeat (first | apply Kd.R_alloc | apply Kd.R_drewN | apply Kd.R_drew)); exact Kd.R_mono HO_6.out (fun _ hk => by first | exact ⟨hk.1.1, ⟨hk.1.2, hk.2⟩⟩ | ((repeat' constructor) <;> (first | exact hk | exact hk.1 | exact hk.2 | exact hk.1.1 | exact hk.1.2 | exact hk.2.1 | exact hk.2.2 | exact hk.2.2.1 | exact hk.2.2.2 | exact hk.1.2.1 | exact hk.1.2.2 | exact hk.2.1.1 | exact hk.2.1.2 | exact hk.1.1.1 | exact hk.1.1.2))))); (case aS => exact (below_size (by repeat (first | (with_reducible first | exact HB.out | apply below_alloc | apply pw_below_drewN | apply below_drew1) | exact HB.out)))); (case aL => have := LMc10.out; omega); intro v511 w25 ho hb hg hat; rw [← Ny510.out] at ho; have n0_ := Aside0.mk (Kd.R_after (ok := (fun k_ => some k_ ≠ (.slice Ao21 y501.length co21 : Value).ownBlock ∧ some k_ ≠ (.slice Ao26 y507.length co26 : Value).ownBlock)) (by (with_reducible repeat (first | apply Kd.R_alloc | apply Kd.R_drewN | apply Kd.R_drew)); exact Kd.R_mono HO500.out (fun _ hk => by first | exact ⟨⟨hk.1.2, hk.2⟩, hk.1.1⟩ | ((repeat' constructor) <;> (first | exact hk | exact hk.1 | exact hk.2 | exact hk.1.1 | exact hk.1.2 | exact hk.2.1 | exact hk.2.2 | exact hk.2.2.1 | exact hk.2.2.2 | exact hk.1.2.1 | exact hk.1.2.2 | exact hk.2.1.1 | exact hk.2.1.2 | exact hk.1.1.1 | exact hk.1.1.2)))) hg hat); have n1_ := Aside0.mk (Kd.R_after (ok := (fun k_ => some k_ ≠ (.slice Ao20 y498.length co20 : Value).ownBlock ∧ some k_ ≠ (.slice Ao26 y507.length co26 : Value).ownBlock)) (by (with_reducible repeat (first | apply Kd.R_alloc | apply Kd.R_drewN | apply Kd.R_drew)); exact Kd.R_mono HO503.out (fun _ hk => by first | exact ⟨⟨hk.1.2, hk.2⟩, hk.1.1⟩ | ((repeat' constructor) <;> (first | exact hk | exact hk.1 | exact hk.2 | exact hk.1.1 | exact hk.1.2 | exact hk.2.1 | exact hk.2.2 | exact hk.2.2.1 | exact hk.2.2.2 | exact hk.1.2.1 | exact hk.1.2.2 | exact hk.2.1.1 | exact hk.2.1.2 | exact hk.1.1.1 | exact hk.1.1.2)))) hg hat); have n2_ := Aside0.mk (Kd.R_after (ok := (fun k_ => some k_ ≠ (.slice Ao20 y498.length co20 : Value).ownBlock ∧ some k_ ≠ (.slice Ao21 y501.length co21 : Value).ownBlock)) (by (with_reducible repeat (first | apply Kd.R_alloc | apply Kd.R_drewN | apply Kd.R_drew)); exact Kd.R_mono HO509.out (fun _ hk => by first | exact ⟨⟨hk.1.2, hk.2⟩, hk.1.1.2⟩ | ((repeat' constructor) <;> (first | exact hk | exact hk.1 | exact hk.2 | exact hk.1.1 | exact hk.1.2 | exact hk.2.1 | exact hk.2.2 | exact hk.2.2.1 | exact hk.2.2.2 | exact hk.1.2.1 | exact hk.1.2.2 | exact hk.2.1.1 | exact hk.2.1.2 | exact hk.1.1.1 | exact hk.1.1.2)))) hg hat); have n3_ := Aside0.mk (hb); have n4_ := Aside0.mk (ho); clear HO500; clear HO503; clear HO509; clear HB; clear HO_6; have HO500 := n0_; have HO503 := n1_; have HO509 := n2_; have HB := n3_; have HO512 := n4_; clear n0_ n1_ n2_ n3_ n4_; clear ho hb hg hat))
                  go_roundg k1
                  case measure => have := HK1.out; omega
                  case rel => exact ⟨(y510), (wrap64 (x7_1 + 1)), (by first | rfl | (simp; done) | (simp [*]; done)), H', ⟨by have := HK1.out; omega⟩, ⟨by (with_reducible repeat (first | apply Kd.R_alloc | apply Kd.R_drewN | apply Kd.R_drew)); exact Kd.R_mono HO512.out (fun _ hk => trivial)⟩, ⟨by repeat (first | (with_reducible first | exact HB.out | apply below_alloc | apply pw_below_drewN | apply below_drew1) | exact HB.out)⟩⟩
                · rw [if_neg c10] at H
                  exact absurd H (by simp)
              · rw [if_neg c9] at H
                have c9b0 : (t505 == (rd l0 x7_1)) = false := beq_eq_false_iff_ne.mpr c9
                have c9b1 : (t505 != (rd l0 x7_1)) = true := bne_iff_ne.mpr c9
                obtain ⟨y513, hy513⟩ : ∃ y_ : List Int, y_ = (([1] : List Int)) := ⟨_, rfl⟩
                replace H : (if x6_1.length + y513.length < 140737488355328 then (shuttleref11_Alone.l0 k1 l0 a1 (x6_1 ++ y513) (wrap64 (x7_1 + 1))) else (none)) = some (r1, r2) := by first | (rw [hy513]; with_reducible exact H) | (have H2_ := (Option.bind_some _ _).symm.trans H; rw [hy513]; with_reducible exact H2_) | (have H2_ := (Option.bind_some _ _).symm.trans H; with_reducible exact H2_) | with_reducible exact H | (rw [hy513]; exact H) | exact H
                have Ny513 := Aside0.mk hy513
                clear hy513
                by_cases c27 : x6_1.length + y513.length < 140737488355328
                · rw [if_pos c27] at H
                  have LMc27 := Aside0.mk c27
                  clear c27
                  obtain ⟨y516, hy516⟩ : ∃ y_ : List Int, y_ = (x6_1 ++ y513) := ⟨_, rfl⟩
                  replace H : (shuttleref11_Alone.l0 k1 l0 a1 y516 (wrap64 (x7_1 + 1))) = some (r1, r2) := by first | (rw [hy516]; with_reducible exact H) | (have H2_ := (Option.bind_some _ _).symm.trans H; rw [hy516]; with_reducible exact H2_) | (have H2_ := (Option.bind_some _ _).symm.trans H; with_reducible exact H2_) | with_reducible exact H | (rw [hy516]; exact H) | exact H
                  have Ny516 := Aside0.mk hy516
                  clear hy516
                  have H' := Aside0.mk H
                  clear H
                  obtain ⟨Ao28, co28, eo28⟩ := Kd.R_slice HO_6.out
                  subst eo28
                  try go_wp2
                  have n0_ := Aside0.mk (Kd.R_drew HO_6.out)
                  have n1_ := Aside0.mk (below_drew1 HB.out)
                  clear HO_6
                  clear HB
                  have HO_6 := n0_
                  have HB := n1_
                  clear n0_ n1_
                  have p506 : 0 ≤ (x7_1 : Int) := of_decide_eq_true (by first | (with_reducible assumption) | assumption)
                  have q506 : x7_1 < (l0.length : Int) := of_decide_eq_true (by first | (with_reducible assumption) | assumption)
                  obtain ⟨ad506, e506, hx506_0⟩ := Kd.at_int HR0.out x7_1 p506 q506
                  have hw506_0 := hx506_0
                  cases e506
                  replace hx506_0 := (HB.out.cell (World.block_lt_of_cell? w _ hx506_0)).trans hx506_0
                  replace p506 := eq_true p506
                  replace q506 := eq_true q506
                  refine start_ (n := 15) (S := fun w' => w'.cell? (ad506.add (x7_1).toNat) = some (.int .u8 (rd l0 x7_1))) (ds := []) #[false, false, false, false, false, false, false, false, false, false, false, false, false, false, false] (by kernel_rfl) rfl rfl (((HB.out.cell (World.block_lt_of_cell? w _ hw506_0)).trans hw506_0)) (fun hHeld => ?_); refine with_tabW shuttleref11_Alone.tab6 shuttleref11_Alone.bits6 (fun HT_ HW_ => ?_)
                  generalize wr.drew = w29 at HO_6 HB hx506_0 hHeld ⊢
                  refine pure_ (i := 1) (N := some 18) (v := ?_) (a' := ?_) #[false, true, false, false, false, false, false, false, false, false, false, false, false, false, false] rfl rfl (any_of HT_.out (by kernel_rfl)) (fun _ _ _ h => h) (Or.inl ⟨by rfl, ?_⟩) ?_ ?_
                  rotate_left
                  · intro w'
                    go_simp
                    with_reducible rfl
                  rotate_left
                  · simp only [Act.put, List.setIfInBounds_toArray, List.set_cons_zero, List.set_cons_succ, i64_w, i32_w]
                    rfl
                  refine pure_ (i := 5) (N := some 22) (v := ?_) (a' := ?_) #[false, true, false, false, false, true, false, false, false, false, false, false, false, false, false] rfl rfl (any_of HT_.out (by kernel_rfl)) (fun _ _ _ h => h) (Or.inl ⟨by rfl, ?_⟩) ?_ ?_
                  rotate_left
                  · intro w'
                    go_simp
                    with_reducible rfl
                  rotate_left
                  · simp only [Act.put, List.setIfInBounds_toArray, List.set_cons_zero, List.set_cons_succ, i64_w, i32_w]
                    rfl
                  refine pure_ (i := 6) (N := some 23) (v := ?_) (a' := ?_) #[false, true, false, false, false, true, true, false, false, false, false, false, false, false, false] rfl rfl (any_of HT_.out (by kernel_rfl)) (fun _ _ _ h => h) (Or.inl ⟨by rfl, ?_⟩) ?_ ?_
                  rotate_left
                  · intro w'
                    go_simp
                    with_reducible rfl
                  rotate_left
                  · simp only [Act.put, List.setIfInBounds_toArray, List.set_cons_zero, List.set_cons_succ, i64_w, i32_w]
                    rfl
                  refine pure_ (i := 7) (N := some 24) (v := ?_) (a' := ?_) #[false, true, false, false, false, true, true, true, false, false, false, false, false, false, false] rfl rfl (any_of HT_.out (by kernel_rfl)) (fun _ _ _ h => h) (Or.inl ⟨by rfl, ?_⟩) ?_ ?_
                  rotate_left
                  · intro w'
                    go_simp
                    with_reducible rfl
                  rotate_left
                  · simp only [Act.put, List.setIfInBounds_toArray, List.set_cons_zero, List.set_cons_succ, i64_w, i32_w]
                    rfl
                  refine pure_ (i := 10) (N := some 27) (v := ?_) (a' := ?_) #[false, true, false, false, false, true, true, true, false, false, true, false, false, false, false] rfl rfl (any_of HT_.out (by kernel_rfl)) (fun _ _ _ h => h) (Or.inl ⟨by rfl, ?_⟩) ?_ ?_
                  rotate_left
                  · intro w'
                    go_simp
                    with_reducible rfl
                  rotate_left
                  · simp only [Act.put, List.setIfInBounds_toArray, List.set_cons_zero, List.set_cons_succ, i64_w, i32_w]
                    rfl
                  refine pure_ (i := 11) (N := some 28) (v := ?_) (a' := ?_) #[false, true, false, false, false, true, true, true, false, false, true, true, false, false, false] rfl rfl (any_of HT_.out (by kernel_rfl)) (fun _ _ _ h => h) (Or.inl ⟨by rfl, ?_⟩) ?_ ?_
                  rotate_left
                  · intro w'
                    go_simp
                    with_reducible rfl
                  rotate_left
                  · simp only [Act.put, List.setIfInBounds_toArray, List.set_cons_zero, List.set_cons_succ, i64_w, i32_w]
                    rfl
                  refine pure_ (i := 12) (N := some 29) (v := ?_) (a' := ?_) #[false, true, false, false, false, true, true, true, false, false, true, true, true, false, false] rfl rfl (any_of HT_.out (by kernel_rfl)) (fun _ _ _ h => h) (Or.inl ⟨by rfl, ?_⟩) ?_ ?_
                  rotate_left
                  · intro w'
                    go_simp
                    with_reducible rfl
                  rotate_left
                  · simp only [Act.put, List.setIfInBounds_toArray, List.set_cons_zero, List.set_cons_succ, i64_w, i32_w]
                    rfl
                  refine take_ (i := 13) (N := some 30) (v := ?_) (a' := ?_) #[false, true, false, false, false, true, true, true, false, false, true, true, true, true, false] rfl rfl (take_ofW HT_.out HW_.out (by kernel_rfl)) (fun _ _ _ h => h) (Or.inl ⟨by rfl, ?_⟩) hHeld ?_ ?_
                  rotate_left
                  · intro w' s0
                    go_simp
                    with_reducible rfl
                  rotate_left
                  · simp only [Act.put, List.setIfInBounds_toArray, List.set_cons_zero, List.set_cons_succ, i64_w, i32_w]
                    rfl
                  refine join_ (σ := Value × Value × Value) 4 #[true, true, true, true, false, true, true, true, false, false, true, true, true, true, false] (fun s_ => [(17, s_.1), (19, s_.2.1), (20, s_.2.2)]) (fun s_ w' => (w'.cell? (ad506.add (x7_1).toNat) = some (.int .u8 (rd l0 x7_1))) ∧ (Kd.R (Kd.int .u8) 5 w' w.heap.size (fun k_ => some k_ ≠ (s_.2.2 : Value).ownBlock ∧ some k_ ≠ (.slice Ao28 x6_1.length co28 : Value).ownBlock) s_.2.1 y495) ∧ (Kd.R (Kd.int .u8) 5 w' w.heap.size (fun k_ => some k_ ≠ (s_.2.1 : Value).ownBlock ∧ some k_ ≠ (.slice Ao28 x6_1.length co28 : Value).ownBlock) s_.2.2 y498) ∧ (Kd.R (Kd.int .u8) 5 w' w.heap.size (fun k_ => some k_ ≠ (s_.2.1 : Value).ownBlock ∧ some k_ ≠ (s_.2.2 : Value).ownBlock) (.slice Ao28 x6_1.length co28) x6_1) ∧ (Below w.heap.size w w')) ?_ ?_
                  rotate_left
                  · intro hCont
                    refine two_ (i := 0) (j := 3) (Ni := some 17) (Nj := some 20) #[true, true, false, false, false, true, true, true, false, false, true, true, true, true, false] #[false, true, false, true, false, true, true, true, false, false, true, true, true, true, false] rfl rfl rfl rfl (two_of HT_.out (by kernel_rfl)) (by decide) (by decide) (fun K hK => ?_) (fun K hK => ?_)
                    · skip
                      refine Kd.R_lit_step (Kd.int .u8) _ 5 ?hg (N := 17) ?hd (xs := ([] : List Int)) (inner := []) (ok := fun _ => True) (okp := fun _ => True) ?hr ?hp (fun _ hk => hk) trivial (Below.refl _ _) (Nat.le_refl _) (by simp) ?_; (case hd => rfl); (case hg => rfl); (case hr => first | (go_simp; done) | (go_simp; rfl)); (case hp => exact (Reps.none _ _))
                      intro v493 w30 ho31 hb hg_ hnew_
                      clear hg_ hnew_
                      (first | rw [← Ny492.out] at ho31 | (simp only [Int.reduceToNat] at ho31; rw [← Ny492.out] at ho31))
                      have n0_ := Aside0.mk (Kd.R_elder' (by (with_reducible repeat (first | apply Kd.R_alloc | apply Kd.R_drewN | apply Kd.R_drew)); exact HO_6.out) (Kd.R_base ho31) hb)
                      have n1_ := Aside0.mk (Kd.R_lower (Kd.R_new' ho31 (Kd.R_lt (by (with_reducible repeat (first | apply Kd.R_alloc | apply Kd.R_drewN | apply Kd.R_drew)); exact HO_6.out))) (below_size (by repeat (first | (with_reducible first | exact HB.out | apply below_alloc | apply pw_below_drewN | apply below_drew1) | exact HB.out))))
                      have n2_ := Aside0.mk (below_step (by repeat (first | (with_reducible first | exact HB.out | apply below_alloc | apply pw_below_drewN | apply below_drew1) | exact HB.out)) hb)
                      clear HO_6
                      clear HB
                      have HO_6 := n0_
                      have HO494 := n1_
                      have HB := n2_
                      clear n0_ n1_ n2_
                      clear hb ho31
                      refine hK.out _ _ (((HB.out.cell (World.block_lt_of_cell? w _ hw506_0)).trans hw506_0)) (fun hHeld => ?_)
                      clear hK K
                      refine norm_ (a' := ?_) ?_ ?_
                      rotate_left
                      · show Act.put _ (some 17) _ = _
                        simp only [Act.put, List.setIfInBounds_toArray, List.set_cons_zero, List.set_cons_succ, i64_w, i32_w]
                        rfl
                      refine two_ (i := 2) (j := 3) (Ni := some 19) (Nj := some 20) #[true, true, true, false, false, true, true, true, false, false, true, true, true, true, false] #[true, true, false, true, false, true, true, true, false, false, true, true, true, true, false] rfl rfl rfl rfl (two_of HT_.out (by kernel_rfl)) (by decide) (by decide) (fun K hK => ?_) (fun K hK => ?_)
                      · skip
                        refine Kd.R_append_rows_step (Kd.int .u8) (w0 := w) w.heap.size (by rfl) (.tmp 17) (.tmp 18) 35 5 (.int .u8 0) 1 rfl Tryd.underlying35 info5 rfl (by decide) (by omega) v493 y492 x6_1 _ _ _ (fun k_ => some k_ ≠ (.slice Ao28 x6_1.length co28 : Value).ownBlock) (fun _ => False) rfl rfl ?aO ?aR (fun _ _ h => h) (fun _ h => h.elim) ?aF ?aB ?aS ?aL ?_
                        (case aR => repeat (first | exact (Kd.R_reads' HO_6.out).2.2 | (with_reducible refine Kd.C_alloc ?_ _) | (with_reducible refine Kd.C_drewN ?_ _) | (with_reducible refine Kd.C_drew ?_)))
                        (case aB => exact (by repeat (first | (with_reducible first | exact HB.out | apply below_alloc | apply pw_below_drewN | apply below_drew1) | exact HB.out)))
                        (case aF => exact (fun k_ hk => Kd.fresh' (Kd.R_lt (by (with_reducible repeat (first | apply Kd.R_alloc | apply Kd.R_drewN | apply Kd.R_drew)); exact HO_6.out)) k_ hk))
                        (case aO => exact (by (with_reducible repeat (first | apply Kd.R_alloc | apply Kd.R_drewN | apply Kd.R_drew)); exact Kd.R_mono HO494.out (fun _ hk => hk.2)))
                        (case aS => exact (below_size (by repeat (first | (with_reducible first | exact HB.out | apply below_alloc | apply pw_below_drewN | apply below_drew1) | exact HB.out))))
                        (case aL => have := LMc4.out; omega)
                        intro v496 w32 ho hb hg hat
                        rw [← Ny495.out] at ho
                        have n0_ := Aside0.mk (Kd.R_after (ok := (fun _ => True)) (by (with_reducible repeat (first | apply Kd.R_alloc | apply Kd.R_drewN | apply Kd.R_drew)); exact HO_6.out) hg hat)
                        have n1_ := Aside0.mk (hb)
                        have n2_ := Aside0.mk (ho)
                        clear HO_6
                        clear HB
                        clear HO494
                        have HO_6 := n0_
                        have HB := n1_
                        have HO497 := n2_
                        clear n0_ n1_ n2_
                        clear ho hb hg hat
                        refine hK.out _ _ (((HB.out.cell (World.block_lt_of_cell? w _ hw506_0)).trans hw506_0)) (fun hHeld => ?_)
                        clear hK K
                        refine norm_ (a' := ?_) ?_ ?_
                        rotate_left
                        · show Act.put _ (some 19) _ = _
                          simp only [Act.put, List.setIfInBounds_toArray, List.set_cons_zero, List.set_cons_succ, i64_w, i32_w]
                          rfl
                        refine one_ (i := 3) (N := some 20) #[true, true, true, true, false, true, true, true, false, false, true, true, true, true, false] rfl rfl (one_of HT_.out (by kernel_rfl)) (by decide) (fun K hK => ?_)
                        refine Kd.R_lit_step (Kd.int .u8) _ 5 ?hg (N := 20) ?hd (xs := ([0] : List Int)) (inner := [.int .u8 0]) (ok := fun _ => True) (okp := fun _ => True) ?hr ?hp (fun _ hk => hk) trivial (Below.refl _ _) (Nat.le_refl _) (by simp) ?_; (case hd => rfl); (case hg => rfl); (case hr => first | (go_simp; done) | (go_simp; rfl)); (case hp => exact (Reps.one (show Kd.M (Kd.int .u8) _ _ _ 0 [.int .u8 0] from rfl) (Reps.none _ _)))
                        intro v499 w33 ho34 hb hg_ hnew_
                        clear hg_ hnew_
                        (first | rw [← Ny498.out] at ho34 | (simp only [Int.reduceToNat] at ho34; rw [← Ny498.out] at ho34))
                        have n0_ := Aside0.mk (Kd.R_elder' (by (with_reducible repeat (first | apply Kd.R_alloc | apply Kd.R_drewN | apply Kd.R_drew)); exact HO_6.out) (Kd.R_base ho34) hb)
                        have n1_ := Aside0.mk (Kd.R_elder' (by (with_reducible repeat (first | apply Kd.R_alloc | apply Kd.R_drewN | apply Kd.R_drew)); exact HO497.out) (Kd.R_base ho34) hb)
                        have n2_ := Aside0.mk (Kd.R_lower (Kd.R_new' (Kd.R_new' ho34 (Kd.R_lt (by (with_reducible repeat (first | apply Kd.R_alloc | apply Kd.R_drewN | apply Kd.R_drew)); exact HO_6.out))) (Kd.R_lt (by (with_reducible repeat (first | apply Kd.R_alloc | apply Kd.R_drewN | apply Kd.R_drew)); exact HO497.out))) (below_size (by repeat (first | (with_reducible first | exact HB.out | apply below_alloc | apply pw_below_drewN | apply below_drew1) | exact HB.out))))
                        have n3_ := Aside0.mk (below_step (by repeat (first | (with_reducible first | exact HB.out | apply below_alloc | apply pw_below_drewN | apply below_drew1) | exact HB.out)) hb)
                        clear HO_6
                        clear HO497
                        clear HB
                        have HO_6 := n0_
                        have HO497 := n1_
                        have HO500 := n2_
                        have HB := n3_
                        clear n0_ n1_ n2_ n3_
                        clear hb ho34
                        refine hK.out _ _ (((HB.out.cell (World.block_lt_of_cell? w _ hw506_0)).trans hw506_0)) (fun hHeld => ?_)
                        clear hK K
                        refine norm_ (a' := ?_) ?_ ?_
                        rotate_left
                        · show Act.put _ (some 20) _ = _
                          simp only [Act.put, List.setIfInBounds_toArray, List.set_cons_zero, List.set_cons_succ, i64_w, i32_w]
                          rfl
                        exact norm_ (by simp only [putAll, Act.put, List.setIfInBounds_toArray, List.set_cons_zero, List.set_cons_succ]) (hCont (v493, v496, v499) _ ⟨hHeld, (by (with_reducible repeat (first | apply Kd.R_alloc | apply Kd.R_drewN | apply Kd.R_drew)); exact Kd.R_mono HO497.out (fun _ hk => by first | exact ⟨hk.2, hk.1⟩ | ((repeat' constructor) <;> (first | exact hk | exact hk.1 | exact hk.2 | exact hk.1.1 | exact hk.1.2 | exact hk.2.1 | exact hk.2.2 | exact hk.2.2.1 | exact hk.2.2.2 | exact hk.1.2.1 | exact hk.1.2.2 | exact hk.2.1.1 | exact hk.2.1.2 | exact hk.1.1.1 | exact hk.1.1.2)))), (by (with_reducible repeat (first | apply Kd.R_alloc | apply Kd.R_drewN | apply Kd.R_drew)); exact Kd.R_mono HO500.out (fun _ hk => by first | exact ⟨hk.2, hk.1.2⟩ | ((repeat' constructor) <;> (first | exact hk | exact hk.1 | exact hk.2 | exact hk.1.1 | exact hk.1.2 | exact hk.2.1 | exact hk.2.2 | exact hk.2.2.1 | exact hk.2.2.2 | exact hk.1.2.1 | exact hk.1.2.2 | exact hk.2.1.1 | exact hk.2.1.2 | exact hk.1.1.1 | exact hk.1.1.2)))), (by (with_reducible repeat (first | apply Kd.R_alloc | apply Kd.R_drewN | apply Kd.R_drew)); exact Kd.R_mono HO_6.out (fun _ hk => by first | exact ⟨hk.1.2, hk.2⟩ | ((repeat' constructor) <;> (first | exact hk | exact hk.1 | exact hk.2 | exact hk.1.1 | exact hk.1.2 | exact hk.2.1 | exact hk.2.2 | exact hk.2.2.1 | exact hk.2.2.2 | exact hk.1.2.1 | exact hk.1.2.2 | exact hk.2.1.1 | exact hk.2.1.2 | exact hk.1.1.1 | exact hk.1.1.2)))), (by repeat (first | (with_reducible first | exact HB.out | apply below_alloc | apply pw_below_drewN | apply below_drew1) | exact HB.out))⟩)
                      · skip
                        refine Kd.R_lit_step (Kd.int .u8) _ 5 ?hg (N := 20) ?hd (xs := ([0] : List Int)) (inner := [.int .u8 0]) (ok := fun _ => True) (okp := fun _ => True) ?hr ?hp (fun _ hk => hk) trivial (Below.refl _ _) (Nat.le_refl _) (by simp) ?_; (case hd => rfl); (case hg => rfl); (case hr => first | (go_simp; done) | (go_simp; rfl)); (case hp => exact (Reps.one (show Kd.M (Kd.int .u8) _ _ _ 0 [.int .u8 0] from rfl) (Reps.none _ _)))
                        intro v499 w32 ho33 hb hg_ hnew_
                        clear hg_ hnew_
                        (first | rw [← Ny498.out] at ho33 | (simp only [Int.reduceToNat] at ho33; rw [← Ny498.out] at ho33))
                        have n0_ := Aside0.mk (Kd.R_elder' (by (with_reducible repeat (first | apply Kd.R_alloc | apply Kd.R_drewN | apply Kd.R_drew)); exact HO_6.out) (Kd.R_base ho33) hb)
                        have n1_ := Aside0.mk (Kd.R_elder' (by (with_reducible repeat (first | apply Kd.R_alloc | apply Kd.R_drewN | apply Kd.R_drew)); exact HO494.out) (Kd.R_base ho33) hb)
                        have n2_ := Aside0.mk (Kd.R_lower (Kd.R_new' (Kd.R_new' ho33 (Kd.R_lt (by (with_reducible repeat (first | apply Kd.R_alloc | apply Kd.R_drewN | apply Kd.R_drew)); exact HO_6.out))) (Kd.R_lt (by (with_reducible repeat (first | apply Kd.R_alloc | apply Kd.R_drewN | apply Kd.R_drew)); exact HO494.out))) (below_size (by repeat (first | (with_reducible first | exact HB.out | apply below_alloc | apply pw_below_drewN | apply below_drew1) | exact HB.out))))
                        have n3_ := Aside0.mk (below_step (by repeat (first | (with_reducible first | exact HB.out | apply below_alloc | apply pw_below_drewN | apply below_drew1) | exact HB.out)) hb)
                        clear HO_6
                        clear HO494
                        clear HB
                        have HO_6 := n0_
                        have HO494 := n1_
                        have HO500 := n2_
                        have HB := n3_
                        clear n0_ n1_ n2_ n3_
                        clear hb ho33
                        refine hK.out _ _ (((HB.out.cell (World.block_lt_of_cell? w _ hw506_0)).trans hw506_0)) (fun hHeld => ?_)
                        clear hK K
                        refine norm_ (a' := ?_) ?_ ?_
                        rotate_left
                        · show Act.put _ (some 20) _ = _
                          simp only [Act.put, List.setIfInBounds_toArray, List.set_cons_zero, List.set_cons_succ, i64_w, i32_w]
                          rfl
                        refine one_ (i := 2) (N := some 19) #[true, true, true, true, false, true, true, true, false, false, true, true, true, true, false] rfl rfl (one_of HT_.out (by kernel_rfl)) (by decide) (fun K hK => ?_)
                        refine Kd.R_append_rows_step (Kd.int .u8) (w0 := w) w.heap.size (by rfl) (.tmp 17) (.tmp 18) 35 5 (.int .u8 0) 1 rfl Tryd.underlying35 info5 rfl (by decide) (by omega) v493 y492 x6_1 _ _ _ (fun k_ => some k_ ≠ (.slice Ao28 x6_1.length co28 : Value).ownBlock ∧ some k_ ≠ (v499 : Value).ownBlock) (fun _ => False) rfl rfl ?aO ?aR (fun _ _ h => h) (fun _ h => h.elim) ?aF ?aB ?aS ?aL ?_
                        (case aR => repeat (first | exact (Kd.R_reads' HO_6.out).2.2 | (with_reducible refine Kd.C_alloc ?_ _) | (with_reducible refine Kd.C_drewN ?_ _) | (with_reducible refine Kd.C_drew ?_)))
                        (case aB => exact (by repeat (first | (with_reducible first | exact HB.out | apply below_alloc | apply pw_below_drewN | apply below_drew1) | exact HB.out)))
                        (case aF => exact (fun k_ hk => ⟨Kd.fresh' (Kd.R_lt (by (with_reducible repeat (first | apply Kd.R_alloc | apply Kd.R_drewN | apply Kd.R_drew)); exact HO_6.out)) k_ hk, Kd.fresh' (Kd.R_lt (by (with_reducible repeat (first | apply Kd.R_alloc | apply Kd.R_drewN | apply Kd.R_drew)); exact HO500.out)) k_ hk⟩))
                        (case aO => exact (by (with_reducible repeat (first | apply Kd.R_alloc | apply Kd.R_drewN | apply Kd.R_drew)); exact Kd.R_mono HO494.out (fun _ hk => by first | exact ⟨hk.1.2, hk.2⟩ | ((repeat' constructor) <;> (first | exact hk | exact hk.1 | exact hk.2 | exact hk.1.1 | exact hk.1.2 | exact hk.2.1 | exact hk.2.2 | exact hk.2.2.1 | exact hk.2.2.2 | exact hk.1.2.1 | exact hk.1.2.2 | exact hk.2.1.1 | exact hk.2.1.2 | exact hk.1.1.1 | exact hk.1.1.2)))))
                        (case aS => exact (below_size (by repeat (first | (with_reducible first | exact HB.out | apply below_alloc | apply pw_below_drewN | apply below_drew1) | exact HB.out))))
                        (case aL => have := LMc4.out; omega)
                        intro v496 w34 ho hb hg hat
                        rw [← Ny495.out] at ho
                        have n0_ := Aside0.mk (Kd.R_after (ok := (fun k_ => some k_ ≠ (v499 : Value).ownBlock)) (by (with_reducible repeat (first | apply Kd.R_alloc | apply Kd.R_drewN | apply Kd.R_drew)); exact Kd.R_mono HO_6.out (fun _ hk => by first | exact ⟨hk.2, hk.1.2⟩ | ((repeat' constructor) <;> (first | exact hk | exact hk.1 | exact hk.2 | exact hk.1.1 | exact hk.1.2 | exact hk.2.1 | exact hk.2.2 | exact hk.2.2.1 | exact hk.2.2.2 | exact hk.1.2.1 | exact hk.1.2.2 | exact hk.2.1.1 | exact hk.2.1.2 | exact hk.1.1.1 | exact hk.1.1.2)))) hg hat)
                        have n1_ := Aside0.mk (Kd.R_after (ok := (fun k_ => some k_ ≠ (.slice Ao28 x6_1.length co28 : Value).ownBlock)) (by (with_reducible repeat (first | apply Kd.R_alloc | apply Kd.R_drewN | apply Kd.R_drew)); exact Kd.R_mono HO500.out (fun _ hk => by first | exact ⟨hk.1.2, hk.2⟩ | ((repeat' constructor) <;> (first | exact hk | exact hk.1 | exact hk.2 | exact hk.1.1 | exact hk.1.2 | exact hk.2.1 | exact hk.2.2 | exact hk.2.2.1 | exact hk.2.2.2 | exact hk.1.2.1 | exact hk.1.2.2 | exact hk.2.1.1 | exact hk.2.1.2 | exact hk.1.1.1 | exact hk.1.1.2)))) hg hat)
                        have n2_ := Aside0.mk (hb)
                        have n3_ := Aside0.mk (ho)
                        clear HO_6
                        clear HO500
                        clear HB
                        clear HO494
                        have HO_6 := n0_
                        have HO500 := n1_
                        have HB := n2_
                        have HO497 := n3_
                        clear n0_ n1_ n2_ n3_
                        clear ho hb hg hat
                        refine hK.out _ _ (((HB.out.cell (World.block_lt_of_cell? w _ hw506_0)).trans hw506_0)) (fun hHeld => ?_)
                        clear hK K
                        refine norm_ (a' := ?_) ?_ ?_
                        rotate_left
                        · show Act.put _ (some 19) _ = _
                          simp only [Act.put, List.setIfInBounds_toArray, List.set_cons_zero, List.set_cons_succ, i64_w, i32_w]
                          rfl
                        exact norm_ (by simp only [putAll, Act.put, List.setIfInBounds_toArray, List.set_cons_zero, List.set_cons_succ]) (hCont (v493, v496, v499) _ ⟨hHeld, (by (with_reducible repeat (first | apply Kd.R_alloc | apply Kd.R_drewN | apply Kd.R_drew)); exact Kd.R_mono HO497.out (fun _ hk => by first | exact ⟨hk.2, hk.1⟩ | ((repeat' constructor) <;> (first | exact hk | exact hk.1 | exact hk.2 | exact hk.1.1 | exact hk.1.2 | exact hk.2.1 | exact hk.2.2 | exact hk.2.2.1 | exact hk.2.2.2 | exact hk.1.2.1 | exact hk.1.2.2 | exact hk.2.1.1 | exact hk.2.1.2 | exact hk.1.1.1 | exact hk.1.1.2)))), (by (with_reducible repeat (first | apply Kd.R_alloc | apply Kd.R_drewN | apply Kd.R_drew)); exact Kd.R_mono HO500.out (fun _ hk => by first | exact ⟨hk.2, hk.1⟩ | ((repeat' constructor) <;> (first | exact hk | exact hk.1 | exact hk.2 | exact hk.1.1 | exact hk.1.2 | exact hk.2.1 | exact hk.2.2 | exact hk.2.2.1 | exact hk.2.2.2 | exact hk.1.2.1 | exact hk.1.2.2 | exact hk.2.1.1 | exact hk.2.1.2 | exact hk.1.1.1 | exact hk.1.1.2)))), (by (with_reducible repeat (first | apply Kd.R_alloc | apply Kd.R_drewN | apply Kd.R_drew)); exact Kd.R_mono HO_6.out (fun _ hk => by first | exact ⟨hk.2, hk.1⟩ | ((repeat' constructor) <;> (first | exact hk | exact hk.1 | exact hk.2 | exact hk.1.1 | exact hk.1.2 | exact hk.2.1 | exact hk.2.2 | exact hk.2.2.1 | exact hk.2.2.2 | exact hk.1.2.1 | exact hk.1.2.2 | exact hk.2.1.1 | exact hk.2.1.2 | exact hk.1.1.1 | exact hk.1.1.2)))), (by repeat (first | (with_reducible first | exact HB.out | apply below_alloc | apply pw_below_drewN | apply below_drew1) | exact HB.out))⟩)
                    · skip
                      refine Kd.R_lit_step (Kd.int .u8) _ 5 ?hg (N := 20) ?hd (xs := ([0] : List Int)) (inner := [.int .u8 0]) (ok := fun _ => True) (okp := fun _ => True) ?hr ?hp (fun _ hk => hk) trivial (Below.refl _ _) (Nat.le_refl _) (by simp) ?_; (case hd => rfl); (case hg => rfl); (case hr => first | (go_simp; done) | (go_simp; rfl)); (case hp => exact (Reps.one (show Kd.M (Kd.int .u8) _ _ _ 0 [.int .u8 0] from rfl) (Reps.none _ _)))
                      intro v499 w30 ho31 hb hg_ hnew_
                      clear hg_ hnew_
                      (first | rw [← Ny498.out] at ho31 | (simp only [Int.reduceToNat] at ho31; rw [← Ny498.out] at ho31))
                      have n0_ := Aside0.mk (Kd.R_elder' (by (with_reducible repeat (first | apply Kd.R_alloc | apply Kd.R_drewN | apply Kd.R_drew)); exact HO_6.out) (Kd.R_base ho31) hb)
                      have n1_ := Aside0.mk (Kd.R_lower (Kd.R_new' ho31 (Kd.R_lt (by (with_reducible repeat (first | apply Kd.R_alloc | apply Kd.R_drewN | apply Kd.R_drew)); exact HO_6.out))) (below_size (by repeat (first | (with_reducible first | exact HB.out | apply below_alloc | apply pw_below_drewN | apply below_drew1) | exact HB.out))))
                      have n2_ := Aside0.mk (below_step (by repeat (first | (with_reducible first | exact HB.out | apply below_alloc | apply pw_below_drewN | apply below_drew1) | exact HB.out)) hb)
                      clear HO_6
                      clear HB
                      have HO_6 := n0_
                      have HO500 := n1_
                      have HB := n2_
                      clear n0_ n1_ n2_
                      clear hb ho31
                      refine hK.out _ _ (((HB.out.cell (World.block_lt_of_cell? w _ hw506_0)).trans hw506_0)) (fun hHeld => ?_)
                      clear hK K
                      refine norm_ (a' := ?_) ?_ ?_
                      rotate_left
                      · show Act.put _ (some 20) _ = _
                        simp only [Act.put, List.setIfInBounds_toArray, List.set_cons_zero, List.set_cons_succ, i64_w, i32_w]
                        rfl
                      refine one_ (i := 0) (N := some 17) #[true, true, false, true, false, true, true, true, false, false, true, true, true, true, false] rfl rfl (one_of HT_.out (by kernel_rfl)) (by decide) (fun K hK => ?_)
                      refine Kd.R_lit_step (Kd.int .u8) _ 5 ?hg (N := 17) ?hd (xs := ([] : List Int)) (inner := []) (ok := fun _ => True) (okp := fun _ => True) ?hr ?hp (fun _ hk => hk) trivial (Below.refl _ _) (Nat.le_refl _) (by simp) ?_; (case hd => rfl); (case hg => rfl); (case hr => first | (go_simp; done) | (go_simp; rfl)); (case hp => exact (Reps.none _ _))
                      intro v493 w32 ho33 hb hg_ hnew_
                      clear hg_ hnew_
                      (first | rw [← Ny492.out] at ho33 | (simp only [Int.reduceToNat] at ho33; rw [← Ny492.out] at ho33))
                      have n0_ := Aside0.mk (Kd.R_elder' (by (with_reducible repeat (first | apply Kd.R_alloc | apply Kd.R_drewN | apply Kd.R_drew)); exact HO_6.out) (Kd.R_base ho33) hb)
                      have n1_ := Aside0.mk (Kd.R_elder' (by (with_reducible repeat (first | apply Kd.R_alloc | apply Kd.R_drewN | apply Kd.R_drew)); exact HO500.out) (Kd.R_base ho33) hb)
                      have n2_ := Aside0.mk (Kd.R_lower (Kd.R_new' (Kd.R_new' ho33 (Kd.R_lt (by (with_reducible repeat (first | apply Kd.R_alloc | apply Kd.R_drewN | apply Kd.R_drew)); exact HO_6.out))) (Kd.R_lt (by (with_reducible repeat (first | apply Kd.R_alloc | apply Kd.R_drewN | apply Kd.R_drew)); exact HO500.out))) (below_size (by repeat (first | (with_reducible first | exact HB.out | apply below_alloc | apply pw_below_drewN | apply below_drew1) | exact HB.out))))
                      have n3_ := Aside0.mk (below_step (by repeat (first | (with_reducible first | exact HB.out | apply below_alloc | apply pw_below_drewN | apply below_drew1) | exact HB.out)) hb)
                      clear HO_6
                      clear HO500
                      clear HB
                      have HO_6 := n0_
                      have HO500 := n1_
                      have HO494 := n2_
                      have HB := n3_
                      clear n0_ n1_ n2_ n3_
                      clear hb ho33
                      refine hK.out _ _ (((HB.out.cell (World.block_lt_of_cell? w _ hw506_0)).trans hw506_0)) (fun hHeld => ?_)
                      clear hK K
                      refine norm_ (a' := ?_) ?_ ?_
                      rotate_left
                      · show Act.put _ (some 17) _ = _
                        simp only [Act.put, List.setIfInBounds_toArray, List.set_cons_zero, List.set_cons_succ, i64_w, i32_w]
                        rfl
                      refine one_ (i := 2) (N := some 19) #[true, true, true, true, false, true, true, true, false, false, true, true, true, true, false] rfl rfl (one_of HT_.out (by kernel_rfl)) (by decide) (fun K hK => ?_)
                      refine Kd.R_append_rows_step (Kd.int .u8) (w0 := w) w.heap.size (by rfl) (.tmp 17) (.tmp 18) 35 5 (.int .u8 0) 1 rfl Tryd.underlying35 info5 rfl (by decide) (by omega) v493 y492 x6_1 _ _ _ (fun k_ => some k_ ≠ (.slice Ao28 x6_1.length co28 : Value).ownBlock ∧ some k_ ≠ (v499 : Value).ownBlock) (fun _ => False) rfl rfl ?aO ?aR (fun _ _ h => h) (fun _ h => h.elim) ?aF ?aB ?aS ?aL ?_
                      (case aR => repeat (first | exact (Kd.R_reads' HO_6.out).2.2 | (with_reducible refine Kd.C_alloc ?_ _) | (with_reducible refine Kd.C_drewN ?_ _) | (with_reducible refine Kd.C_drew ?_)))
                      (case aB => exact (by repeat (first | (with_reducible first | exact HB.out | apply below_alloc | apply pw_below_drewN | apply below_drew1) | exact HB.out)))
                      (case aF => exact (fun k_ hk => ⟨Kd.fresh' (Kd.R_lt (by (with_reducible repeat (first | apply Kd.R_alloc | apply Kd.R_drewN | apply Kd.R_drew)); exact HO_6.out)) k_ hk, Kd.fresh' (Kd.R_lt (by (with_reducible repeat (first | apply Kd.R_alloc | apply Kd.R_drewN | apply Kd.R_drew)); exact HO500.out)) k_ hk⟩))
                      (case aO => exact (by (with_reducible repeat (first | apply Kd.R_alloc | apply Kd.R_drewN | apply Kd.R_drew)); exact Kd.R_mono HO494.out (fun _ hk => by first | exact ⟨hk.1.2, hk.2⟩ | ((repeat' constructor) <;> (first | exact hk | exact hk.1 | exact hk.2 | exact hk.1.1 | exact hk.1.2 | exact hk.2.1 | exact hk.2.2 | exact hk.2.2.1 | exact hk.2.2.2 | exact hk.1.2.1 | exact hk.1.2.2 | exact hk.2.1.1 | exact hk.2.1.2 | exact hk.1.1.1 | exact hk.1.1.2)))))
                      (case aS => exact (below_size (by repeat (first | (with_reducible first | exact HB.out | apply below_alloc | apply pw_below_drewN | apply below_drew1) | exact HB.out))))
                      (case aL => have := LMc4.out; omega)
                      intro v496 w34 ho hb hg hat
                      rw [← Ny495.out] at ho
                      have n0_ := Aside0.mk (Kd.R_after (ok := (fun k_ => some k_ ≠ (v499 : Value).ownBlock)) (by (with_reducible repeat (first | apply Kd.R_alloc | apply Kd.R_drewN | apply Kd.R_drew)); exact Kd.R_mono HO_6.out (fun _ hk => by first | exact ⟨hk.1.2, hk.2⟩ | ((repeat' constructor) <;> (first | exact hk | exact hk.1 | exact hk.2 | exact hk.1.1 | exact hk.1.2 | exact hk.2.1 | exact hk.2.2 | exact hk.2.2.1 | exact hk.2.2.2 | exact hk.1.2.1 | exact hk.1.2.2 | exact hk.2.1.1 | exact hk.2.1.2 | exact hk.1.1.1 | exact hk.1.1.2)))) hg hat)
                      have n1_ := Aside0.mk (Kd.R_after (ok := (fun k_ => some k_ ≠ (.slice Ao28 x6_1.length co28 : Value).ownBlock)) (by (with_reducible repeat (first | apply Kd.R_alloc | apply Kd.R_drewN | apply Kd.R_drew)); exact Kd.R_mono HO500.out (fun _ hk => by first | exact ⟨hk.1.2, hk.2⟩ | ((repeat' constructor) <;> (first | exact hk | exact hk.1 | exact hk.2 | exact hk.1.1 | exact hk.1.2 | exact hk.2.1 | exact hk.2.2 | exact hk.2.2.1 | exact hk.2.2.2 | exact hk.1.2.1 | exact hk.1.2.2 | exact hk.2.1.1 | exact hk.2.1.2 | exact hk.1.1.1 | exact hk.1.1.2)))) hg hat)
                      have n2_ := Aside0.mk (hb)
                      have n3_ := Aside0.mk (ho)
                      clear HO_6
                      clear HO500
                      clear HB
                      clear HO494
                      have HO_6 := n0_
                      have HO500 := n1_
                      have HB := n2_
                      have HO497 := n3_
                      clear n0_ n1_ n2_ n3_
                      clear ho hb hg hat
                      refine hK.out _ _ (((HB.out.cell (World.block_lt_of_cell? w _ hw506_0)).trans hw506_0)) (fun hHeld => ?_)
                      clear hK K
                      refine norm_ (a' := ?_) ?_ ?_
                      rotate_left
                      · show Act.put _ (some 19) _ = _
                        simp only [Act.put, List.setIfInBounds_toArray, List.set_cons_zero, List.set_cons_succ, i64_w, i32_w]
                        rfl
                      exact norm_ (by simp only [putAll, Act.put, List.setIfInBounds_toArray, List.set_cons_zero, List.set_cons_succ]) (hCont (v493, v496, v499) _ ⟨hHeld, (by (with_reducible repeat (first | apply Kd.R_alloc | apply Kd.R_drewN | apply Kd.R_drew)); exact Kd.R_mono HO497.out (fun _ hk => by first | exact ⟨hk.2, hk.1⟩ | ((repeat' constructor) <;> (first | exact hk | exact hk.1 | exact hk.2 | exact hk.1.1 | exact hk.1.2 | exact hk.2.1 | exact hk.2.2 | exact hk.2.2.1 | exact hk.2.2.2 | exact hk.1.2.1 | exact hk.1.2.2 | exact hk.2.1.1 | exact hk.2.1.2 | exact hk.1.1.1 | exact hk.1.1.2)))), (by (with_reducible repeat (first | apply Kd.R_alloc | apply Kd.R_drewN | apply Kd.R_drew)); exact Kd.R_mono HO500.out (fun _ hk => by first | exact ⟨hk.2, hk.1⟩ | ((repeat' constructor) <;> (first | exact hk | exact hk.1 | exact hk.2 | exact hk.1.1 | exact hk.1.2 | exact hk.2.1 | exact hk.2.2 | exact hk.2.2.1 | exact hk.2.2.2 | exact hk.1.2.1 | exact hk.1.2.2 | exact hk.2.1.1 | exact hk.2.1.2 | exact hk.1.1.1 | exact hk.1.1.2)))), (by (with_reducible repeat (first | apply Kd.R_alloc | apply Kd.R_drewN | apply Kd.R_drew)); exact Kd.R_mono HO_6.out (fun _ hk => by first | exact ⟨hk.2, hk.1⟩ | ((repeat' constructor) <;> (first | exact hk | exact hk.1 | exact hk.2 | exact hk.1.1 | exact hk.1.2 | exact hk.2.1 | exact hk.2.2 | exact hk.2.2.1 | exact hk.2.2.2 | exact hk.1.2.1 | exact hk.1.2.2 | exact hk.2.1.1 | exact hk.2.1.2 | exact hk.1.1.1 | exact hk.1.1.2)))), (by repeat (first | (with_reducible first | exact HB.out | apply below_alloc | apply pw_below_drewN | apply below_drew1) | exact HB.out))⟩)
                  rintro ⟨v493, v496, v499⟩ w35 ⟨hS_, h0_, h1_, h2_, h3_⟩
                  have n0_ : Aside0 (Kd.R (Kd.int .u8) 5 w35 w.heap.size (fun k_ => some k_ ≠ (v499 : Value).ownBlock ∧ some k_ ≠ (.slice Ao28 x6_1.length co28 : Value).ownBlock) v496 y495) := ⟨h0_⟩
                  have n1_ : Aside0 (Kd.R (Kd.int .u8) 5 w35 w.heap.size (fun k_ => some k_ ≠ (v496 : Value).ownBlock ∧ some k_ ≠ (.slice Ao28 x6_1.length co28 : Value).ownBlock) v499 y498) := ⟨h1_⟩
                  have n2_ : Aside0 (Kd.R (Kd.int .u8) 5 w35 w.heap.size (fun k_ => some k_ ≠ (v496 : Value).ownBlock ∧ some k_ ≠ (v499 : Value).ownBlock) (.slice Ao28 x6_1.length co28) x6_1) := ⟨h2_⟩
                  have n3_ : Aside0 (Below w.heap.size w w35) := ⟨h3_⟩
                  clear HO_6
                  clear HB
                  clear h0_ h1_ h2_ h3_
                  have HO497 := n0_
                  have HO500 := n1_
                  have HO_6 := n2_
                  have HB := n3_
                  clear n0_ n1_ n2_ n3_
                  have hHeld : w35.cell? (ad506.add (x7_1).toNat) = some (.int .u8 (rd l0 x7_1)) := hS_
                  obtain ⟨Ao37, co37, eo37⟩ := Kd.R_slice HO500.out
                  (first | subst eo37 | (injection eo37 with f1_ f2_ f3_; have f4_ := f1_.symm; have f5_ := f3_.symm; clear f1_ f2_ f3_; subst f4_; subst f5_))
                  refine norm_ (a' := ?_) ?_ ?_
                  rotate_left
                  · simp only [putAll, Act.put, List.setIfInBounds_toArray, List.set_cons_zero, List.set_cons_succ]
                    rfl
                  refine one_ (i := 4) (N := some 21) #[true, true, true, true, true, true, true, true, false, false, true, true, true, true, false] rfl rfl (one_of HT_.out (by kernel_rfl)) (by decide) (fun K hK => ?_)
                  refine Kd.R_append_rows_step (Kd.int .u8) (w0 := w) w.heap.size (by rfl) (.tmp 19) (.tmp 20) 35 5 (.int .u8 0) 1 rfl Tryd.underlying35 info5 rfl (by decide) (by omega) v496 y495 y498 _ _ _ (fun k_ => some k_ ≠ (.slice Ao28 x6_1.length co28 : Value).ownBlock ∧ some k_ ≠ (.slice Ao37 y498.length co37 : Value).ownBlock) (fun _ => False) rfl rfl ?aO ?aR (fun _ _ h => h) (fun _ h => h.elim) ?aF ?aB ?aS ?aL ?_
                  (case aR => repeat (first | exact (Kd.R_reads' HO500.out).2.2 | (with_reducible refine Kd.C_alloc ?_ _) | (with_reducible refine Kd.C_drewN ?_ _) | (with_reducible refine Kd.C_drew ?_)))
                  (case aB => exact (by repeat (first | (with_reducible first | exact HB.out | apply below_alloc | apply pw_below_drewN | apply below_drew1) | exact HB.out)))
                  (case aF => exact (fun k_ hk => ⟨Kd.fresh' (Kd.R_lt (by (with_reducible repeat (first | apply Kd.R_alloc | apply Kd.R_drewN | apply Kd.R_drew)); exact HO_6.out)) k_ hk, Kd.fresh' (Kd.R_lt (by (with_reducible repeat (first | apply Kd.R_alloc | apply Kd.R_drewN | apply Kd.R_drew)); exact HO500.out)) k_ hk⟩))
                  (case aO => exact (by (with_reducible repeat (first | apply Kd.R_alloc | apply Kd.R_drewN | apply Kd.R_drew)); exact Kd.R_mono HO497.out (fun _ hk => by first | exact ⟨hk.2, hk.1⟩ | ((repeat' constructor) <;> (first | exact hk | exact hk.1 | exact hk.2 | exact hk.1.1 | exact hk.1.2 | exact hk.2.1 | exact hk.2.2 | exact hk.2.2.1 | exact hk.2.2.2 | exact hk.1.2.1 | exact hk.1.2.2 | exact hk.2.1.1 | exact hk.2.1.2 | exact hk.1.1.1 | exact hk.1.1.2)))))
                  (case aS => exact (below_size (by repeat (first | (with_reducible first | exact HB.out | apply below_alloc | apply pw_below_drewN | apply below_drew1) | exact HB.out))))
                  (case aL => have := LMc5.out; omega)
                  intro v502 w36 ho hb hg hat
                  rw [← Ny501.out] at ho
                  have n0_ := Aside0.mk (Kd.R_after (ok := (fun k_ => some k_ ≠ (.slice Ao37 y498.length co37 : Value).ownBlock)) (by (with_reducible repeat (first | apply Kd.R_alloc | apply Kd.R_drewN | apply Kd.R_drew)); exact Kd.R_mono HO_6.out (fun _ hk => by first | exact ⟨hk.2, hk.1⟩ | ((repeat' constructor) <;> (first | exact hk | exact hk.1 | exact hk.2 | exact hk.1.1 | exact hk.1.2 | exact hk.2.1 | exact hk.2.2 | exact hk.2.2.1 | exact hk.2.2.2 | exact hk.1.2.1 | exact hk.1.2.2 | exact hk.2.1.1 | exact hk.2.1.2 | exact hk.1.1.1 | exact hk.1.1.2)))) hg hat)
                  have n1_ := Aside0.mk (Kd.R_after (ok := (fun k_ => some k_ ≠ (.slice Ao28 x6_1.length co28 : Value).ownBlock)) (by (with_reducible repeat (first | apply Kd.R_alloc | apply Kd.R_drewN | apply Kd.R_drew)); exact Kd.R_mono HO500.out (fun _ hk => by first | exact ⟨hk.2, hk.1⟩ | ((repeat' constructor) <;> (first | exact hk | exact hk.1 | exact hk.2 | exact hk.1.1 | exact hk.1.2 | exact hk.2.1 | exact hk.2.2 | exact hk.2.2.1 | exact hk.2.2.2 | exact hk.1.2.1 | exact hk.1.2.2 | exact hk.2.1.1 | exact hk.2.1.2 | exact hk.1.1.1 | exact hk.1.1.2)))) hg hat)
                  have n2_ := Aside0.mk (hb)
                  have n3_ := Aside0.mk (ho)
                  clear HO_6
                  clear HO500
                  clear HB
                  clear HO497
                  have HO_6 := n0_
                  have HO500 := n1_
                  have HB := n2_
                  have HO503 := n3_
                  clear n0_ n1_ n2_ n3_
                  clear ho hb hg hat
                  refine hK.out _ _ (((HB.out.cell (World.block_lt_of_cell? w _ hw506_0)).trans hw506_0)) (fun hHeld => ?_)
                  clear hK K
                  refine norm_ (a' := ?_) ?_ ?_
                  rotate_left
                  · show Act.put _ (some 21) _ = _
                    simp only [Act.put, List.setIfInBounds_toArray, List.set_cons_zero, List.set_cons_succ, i64_w, i32_w]
                    rfl
                  refine one_ (i := 8) (N := some 25) #[true, true, true, true, true, true, true, true, true, false, true, true, true, true, false] rfl rfl (one_of HT_.out (by kernel_rfl)) (by decide) (fun K hK => ?_)
                  refine goes_ Tryd.func37 (by kernel_rfl) rfl #[.int .i64 a1, .int .i64 x7_1] (by rfl) rfl rfl (by (try simp only [List.map_toArray, List.map_cons, List.map_nil]); first | done | rfl | (simp only [List.length_drop, List.length_take]; rfl)) ?_
                  with_reducible refine (shuttleref10_Stream.calls a1 x7_1 t504 _ A6.out).mono ?_
                  rintro e w' ⟨rfl, ⟨nd, rfl⟩⟩
                  refine ⟨_, rfl, ?_⟩
                  obtain ⟨Ao38, co38, eo38⟩ := Kd.R_slice HO503.out
                  (first | subst eo38 | (injection eo38 with f1_ f2_ f3_; have f4_ := f1_.symm; have f5_ := f3_.symm; clear f1_ f2_ f3_; subst f4_; subst f5_))
                  refine hK.out _ _ (((HB.out.cell (World.block_lt_of_cell? w _ hw506_0)).trans hw506_0)) (fun hHeld => ?_)
                  clear hK K
                  refine norm_ (a' := ?_) ?_ ?_
                  rotate_left
                  · show Act.put _ (some 25) _ = _
                    simp only [Act.put, List.setIfInBounds_toArray, List.set_cons_zero, List.set_cons_succ, i64_w, i32_w]
                    rfl
                  refine one_ (i := 9) (N := some 26) #[true, true, true, true, true, true, true, true, true, true, true, true, true, true, false] rfl rfl (one_of HT_.out (by kernel_rfl)) (by decide) (fun K hK => ?_)
                  refine goes_ Tryd.func27 (by kernel_rfl) rfl #[.slice Ao38 y501.length co38, .int .i64 x7_1, .int .i64 t504] (by rfl) rfl rfl (by (try simp only [List.map_toArray, List.map_cons, List.map_nil]); first | done | rfl | (simp only [List.length_drop, List.length_take]; rfl)) ?_
                  with_reducible refine (shuttleref06_Bit.calls _ _ y501 x7_1 t504 t505 _ ?side1 ?side2 A7.out).mono ?_
                  (case side1 => repeat (first | exact (Kd.R_reads' HO503.out).2.2 | (with_reducible refine Kd.C_alloc ?_ _) | (with_reducible refine Kd.C_drewN ?_ _) | (with_reducible refine Kd.C_drew ?_)))
                  (case side2 => exact (Kd.R_reads' HO503.out).2.1)
                  rintro e w39 ⟨rfl, hb⟩
                  refine ⟨_, rfl, ?_⟩
                  have n0_ := Aside0.mk (Kd.R_below (by (with_reducible repeat (first | apply Kd.R_alloc | apply Kd.R_drewN | apply Kd.R_drew)); exact HO_6.out) hb)
                  have n1_ := Aside0.mk (Kd.R_below (by (with_reducible repeat (first | apply Kd.R_alloc | apply Kd.R_drewN | apply Kd.R_drew)); exact HO500.out) hb)
                  have n2_ := Aside0.mk (Kd.R_below (by (with_reducible repeat (first | apply Kd.R_alloc | apply Kd.R_drewN | apply Kd.R_drew)); exact HO503.out) hb)
                  have n3_ := Aside0.mk (below_step (by repeat (first | (with_reducible first | exact HB.out | apply below_alloc | apply pw_below_drewN | apply below_drew1) | exact HB.out)) hb)
                  clear HO_6
                  clear HO500
                  clear HO503
                  clear HB
                  have HO_6 := n0_
                  have HO500 := n1_
                  have HO503 := n2_
                  have HB := n3_
                  clear n0_ n1_ n2_ n3_
                  (try clear hb)
                  (try clear hb2)
                  (try clear hk)
                  (try clear hi)
                  refine hK.out _ _ (((HB.out.cell (World.block_lt_of_cell? w _ hw506_0)).trans hw506_0)) (fun hHeld => ?_)
                  clear hK K
                  refine norm_ (a' := ?_) ?_ ?_
                  rotate_left
                  · show Act.put _ (some 26) _ = _
                    simp only [Act.put, List.setIfInBounds_toArray, List.set_cons_zero, List.set_cons_succ, i64_w, i32_w]
                    rfl
                  refine pure_ (i := 14) (N := some 31) (v := ?_) (a' := ?_) #[true, true, true, true, true, true, true, true, true, true, true, true, true, true, true] rfl rfl (any_of HT_.out (by kernel_rfl)) (fun _ _ _ h => h) (Or.inl ⟨by rfl, ?_⟩) ?_ ?_
                  rotate_left
                  · intro w'
                    go_simp
                    with_reducible rfl
                  rotate_left
                  · simp only [Act.put, List.setIfInBounds_toArray, List.set_cons_zero, List.set_cons_succ, i64_w, i32_w]
                    rfl
                  refine done_ (done_of HT_.out (by kernel_rfl)) ?_
                  try go_wp2_with (first | ((with_reducible refine gate_dst (N := 34) rfl ?_); refine Kd.R_lit (Kd.int .u8) _ 5 ?hg (N := 34) ?hd (xs := ([1] : List Int)) (inner := [.int .u8 1]) (ok := fun _ => True) (okp := fun _ => True) ?hr ?hp (fun _ hk => hk) trivial (Below.refl _ _) (Nat.le_refl _) (by simp) ?_; (case hd => rfl); (case hg => rfl); (case hr => first | (go_simp; done) | (go_simp; rfl)); (case hp => exact (Reps.one (show Kd.M (Kd.int .u8) _ _ _ 1 [.int .u8 1] from rfl) (Reps.none _ _))); intro v514 w40 ho41 hb hg_ hnew_; clear hg_ hnew_; (first | rw [← Ny513.out] at ho41 | (simp only [Int.reduceToNat] at ho41; rw [← Ny513.out] at ho41)); have n0_ := Aside0.mk (Kd.R_elder' (by (with_reducible repeat (first | apply Kd.R_alloc | apply Kd.R_drewN | apply Kd.R_drew)); exact HO_6.out) (Kd.R_base ho41) hb); have n1_ := Aside0.mk (Kd.R_elder' (by (with_reducible repeat (first | apply Kd.R_alloc | apply Kd.R_drewN | apply Kd.R_drew)); exact HO500.out) (Kd.R_base ho41) hb); have n2_ := Aside0.mk (Kd.R_elder' (by (with_reducible repeat (first | apply Kd.R_alloc | apply Kd.R_drewN | apply Kd.R_drew)); exact HO503.out) (Kd.R_base ho41) hb); have n3_ := Aside0.mk (Kd.R_lower (Kd.R_new' (Kd.R_new' (Kd.R_new' ho41 (Kd.R_lt (by (with_reducible repeat (first | apply Kd.R_alloc | apply Kd.R_drewN | apply Kd.R_drew)); exact HO_6.out))) (Kd.R_lt (by (with_reducible repeat (first | apply Kd.R_alloc | apply Kd.R_drewN | apply Kd.R_drew)); exact HO500.out))) (Kd.R_lt (by (with_reducible repeat (first | apply Kd.R_alloc | apply Kd.R_drewN | apply Kd.R_drew)); exact HO503.out))) (below_size (by repeat (first | (with_reducible first | exact HB.out | apply below_alloc | apply pw_below_drewN | apply below_drew1) | exact HB.out)))); have n4_ := Aside0.mk (below_step (by repeat (first | (with_reducible first | exact HB.out | apply below_alloc | apply pw_below_drewN | apply below_drew1) | exact HB.out)) hb); clear HO_6; clear HO500; clear HO503; clear HB; have HO_6 := n0_; have HO500 := n1_; have HO503 := n2_; have HO515 := n3_; have HB := n4_; clear n0_ n1_ n2_ n3_ n4_; clear hb ho41; obtain ⟨Ao43, co43, eo43⟩ := Kd.R_slice HO515.out; subst eo43) | ((with_reducible refine gate_builtin (b := .append) (xs := #[.tmp 32, .tmp 34]) rfl ?_); at_builtin; refine Kd.R_append_rows (Kd.int .u8) (w0 := w) w.heap.size rfl (.tmp 32) (.tmp 34) 35 5 (.int .u8 0) 1 rfl Tryd.underlying35 info5 rfl (by decide) (by omega) (.slice Ao28 x6_1.length co28) x6_1 y513 _ _ _ (fun k_ => some k_ ≠ (.slice Ao37 y498.length co37 : Value).ownBlock ∧ some k_ ≠ (.slice Ao38 y501.length co38 : Value).ownBlock ∧ some k_ ≠ (.slice Ao43 y513.length co43 : Value).ownBlock) (fun _ => False) rfl rfl ?aO ?aR (fun _ _ h => h) (fun _ h => h.elim) ?aF ?aB ?aS ?aL ?_; (case aR => repeat (first | exact (Kd.R_reads' HO515.out).2.2 | (with_reducible refine Kd.C_alloc ?_ _) | (with_reducible refine Kd.C_drewN ?_ _) | (with_reducible refine Kd.C_drew ?_))); (case aB => exact (by repeat (first | (with_reducible first | exact HB.out | apply below_alloc | apply pw_below_drewN | apply below_drew1) | exact HB.out))); (case aF => exact (fun k_ hk => ⟨Kd.fresh' (Kd.R_lt (by (with_reducible repeat (first | apply Kd.R_alloc | apply Kd.R_drewN | apply Kd.R_drew)); exact HO500.out)) k_ hk, Kd.fresh' (Kd.R_lt (by (with_reducible repeat (first | apply Kd.R_alloc | apply Kd.R_drewN | apply Kd.R_drew)); exact HO503.out)) k_ hk, Kd.fresh' (Kd.R_lt (by (with_reducible repeat (first | apply Kd.R_alloc | apply Kd.R_drewN | apply Kd.R_drew)); exact HO515.out)) k_ hk⟩)); (case aO => exact (by (with_reducible repeat (first | apply Kd.R_alloc | apply Kd.R_drewN | apply Kd.R_drew)); exact Kd.R_mono HO_6.out (fun _ hk => by first | exact ⟨hk.1.1, ⟨hk.1.2, hk.2⟩⟩ | ((repeat' constructor) <;> (first | exact hk | exact hk.1 | exact hk.2 | exact hk.1.1 | exact hk.1.2 | exact hk.2.1 | exact hk.2.2 | exact hk.2.2.1 | exact hk.2.2.2 | exact hk.1.2.1 | exact hk.1.2.2 | exact hk.2.1.1 | exact hk.2.1.2 | exact hk.1.1.1 | exact hk.1.1.2))))); (case aS => exact (below_size (by repeat (first | (with_reducible first | exact HB.out | apply below_alloc | apply pw_below_drewN | apply below_drew1) | exact HB.out)))); (case aL => have := LMc27.out; omega); intro v517 w42 ho hb hg hat; rw [← Ny516.out] at ho; have n0_ := Aside0.mk (Kd.R_after (ok := (fun k_ => some k_ ≠ (.slice Ao38 y501.length co38 : Value).ownBlock ∧ some k_ ≠ (.slice Ao43 y513.length co43 : Value).ownBlock)) (by (with_reducible repeat (first | apply Kd.R_alloc | apply Kd.R_drewN | apply Kd.R_drew)); exact Kd.R_mono HO500.out (fun _ hk => by first | exact ⟨⟨hk.1.2, hk.2⟩, hk.1.1⟩ | ((repeat' constructor) <;> (first | exact hk | exact hk.1 | exact hk.2 | exact hk.1.1 | exact hk.1.2 | exact hk.2.1 | exact hk.2.2 | exact hk.2.2.1 | exact hk.2.2.2 | exact hk.1.2.1 | exact hk.1.2.2 | exact hk.2.1.1 | exact hk.2.1.2 | exact hk.1.1.1 | exact hk.1.1.2)))) hg hat); have n1_ := Aside0.mk (Kd.R_after (ok := (fun k_ => some k_ ≠ (.slice Ao37 y498.length co37 : Value).ownBlock ∧ some k_ ≠ (.slice Ao43 y513.length co43 : Value).ownBlock)) (by (with_reducible repeat (first | apply Kd.R_alloc | apply Kd.R_drewN | apply Kd.R_drew)); exact Kd.R_mono HO503.out (fun _ hk => by first | exact ⟨⟨hk.1.2, hk.2⟩, hk.1.1⟩ | ((repeat' constructor) <;> (first | exact hk | exact hk.1 | exact hk.2 | exact hk.1.1 | exact hk.1.2 | exact hk.2.1 | exact hk.2.2 | exact hk.2.2.1 | exact hk.2.2.2 | exact hk.1.2.1 | exact hk.1.2.2 | exact hk.2.1.1 | exact hk.2.1.2 | exact hk.1.1.1 | exact hk.1.1.2)))) hg hat); have n2_ := Aside0.mk (Kd.R_after (ok := (fun k_ => some k_ ≠ (.slice Ao37 y498.length co37 : Value).ownBlock ∧ some k_ ≠ (.slice Ao38 y501.length co38 : Value).ownBlock)) (by (with_reducible repeat (first | apply Kd.R_alloc | apply Kd.R_drewN | apply Kd.R_drew)); exact Kd.R_mono HO515.out (fun _ hk => by first | exact ⟨⟨hk.1.2, hk.2⟩, hk.1.1.2⟩ | ((repeat' constructor) <;> (first | exact hk | exact hk.1 | exact hk.2 | exact hk.1.1 | exact hk.1.2 | exact hk.2.1 | exact hk.2.2 | exact hk.2.2.1 | exact hk.2.2.2 | exact hk.1.2.1 | exact hk.1.2.2 | exact hk.2.1.1 | exact hk.2.1.2 | exact hk.1.1.1 | exact hk.1.1.2)))) hg hat); have n3_ := Aside0.mk (hb); have n4_ := Aside0.mk (ho); clear HO500; clear HO503; clear HO515; clear HB; clear HO_6; have HO500 := n0_; have HO503 := n1_; have HO515 := n2_; have HB := n3_; have HO518 := n4_; clear n0_ n1_ n2_ n3_ n4_; clear ho hb hg hat))
                  go_roundg k1
                  case measure => have := HK1.out; omega
                  case rel => exact ⟨(y516), (wrap64 (x7_1 + 1)), (by first | rfl | (simp; done) | (simp [*]; done)), H', ⟨by have := HK1.out; omega⟩, ⟨by (with_reducible repeat (first | apply Kd.R_alloc | apply Kd.R_drewN | apply Kd.R_drew)); exact Kd.R_mono HO518.out (fun _ hk => trivial)⟩, ⟨by repeat (first | (with_reducible first | exact HB.out | apply below_alloc | apply pw_below_drewN | apply below_drew1) | exact HB.out)⟩⟩
                · rw [if_neg c27] at H
                  exact absurd H (by simp)
            · rw [if_neg c8] at H
              exact absurd H (by simp)
          · rw [if_neg c5] at H
            exact absurd H (by simp)
        · rw [if_neg c4] at H
          exact absurd H (by simp)
      · rw [if_neg c3] at H
        have c3b0 : decide (x7_1 < (l0.length : Int)) = false := decide_eq_false c3
        clear c3
        have H' := Aside0.mk H
        clear H
        go_wp2
        go_loopg [10] k1 (fun kq v10 w' => ∃ (x10_2 : Int), v10 = .int .i64 x10_2 ∧ Aside0 (shuttleref11_Alone.l1 kq x6_1 (wrap64 ((l0.length : Int) - 6)) x10_2 = some (r1, r2)) ∧ Aside0 (kq ≤ k1) ∧ Aside0 (Kd.R (Kd.int .u8) 5 w' w.heap.size (fun _ => True) u6 x6_1) ∧ Aside0 (Below w.heap.size w w'))
        case atStart => exact ⟨(wrap64 ((l0.length : Int) - 6)), (by first | rfl | (simp; done) | (simp [*]; done)), H', ⟨Nat.le_refl _⟩, ⟨by (with_reducible repeat (first | apply Kd.R_alloc | apply Kd.R_drewN | apply Kd.R_drew)); exact HO_6.out⟩, ⟨by repeat (first | (with_reducible first | exact HB.out | apply below_alloc | apply pw_below_drewN | apply below_drew1) | exact HB.out)⟩⟩
        case round =>
          clear H'
          try clear c1
          try clear c2
          try clear p2
          try clear c3
          try clear c3b0
          try clear c4
          try clear c5
          try clear p5
          try clear q5
          try clear hx5
          try clear p6
          try clear c8
          try clear c9
          try clear c9b0
          try clear c9b1
          try clear c10
          try clear c27
          try clear c37
          try clear hx506_0
          try clear p506
          try clear q506
          obtain ⟨x10_2, rfl, HA, HK2, HO_6, HB⟩ := hrel
          cases gk with
          | zero => exact absurd HA.out (by simp [shuttleref11_Alone.l1])
          | succ k2 =>
            have H := HA.out
            clear HA
            simp only [shuttleref11_Alone.l1] at H
            by_cases c44 : x10_2 < (x6_1.length : Int)
            · rw [if_pos c44] at H
              have c44b0 : decide (x10_2 < (x6_1.length : Int)) = true := decide_eq_true c44
              clear c44
              by_cases c45 : 0 ≤ x10_2
              · rw [if_pos c45] at H
                have c45b0 : decide (0 ≤ x10_2) = true := decide_eq_true c45
                clear c45
                by_cases c46 : (rd x6_1 x10_2) = 0
                · rw [if_pos c46] at H
                  have c46b0 : ((rd x6_1 x10_2) == 0) = true := beq_iff_eq.mpr c46
                  have c46b1 : ((rd x6_1 x10_2) != 0) = false := bne_eq_false_iff_eq.mpr c46
                  clear c46
                  have H' := Aside0.mk H
                  clear H
                  obtain ⟨Ao47, co47, eo47⟩ := Kd.R_slice HO_6.out
                  subst eo47
                  have p519 : 0 ≤ (x10_2 : Int) := of_decide_eq_true (by first | (with_reducible assumption) | assumption)
                  have q519 : x10_2 < (x6_1.length : Int) := of_decide_eq_true (by first | (with_reducible assumption) | assumption)
                  obtain ⟨ad519, e519, hx519_0⟩ := Kd.at_int (Kd.R_reads' HO_6.out).2.2 x10_2 p519 q519
                  cases e519
                  replace p519 := eq_true p519
                  replace q519 := eq_true q519
                  go_wp2
                  go_roundg k2
                  case measure => have := HK1.out; have := HK2.out; omega
                  case rel => exact ⟨(wrap64 (x10_2 + 1)), (by first | rfl | (simp; done) | (simp [*]; done)), H', ⟨by have := HK1.out; have := HK2.out; omega⟩, ⟨by (with_reducible repeat (first | apply Kd.R_alloc | apply Kd.R_drewN | apply Kd.R_drew)); exact HO_6.out⟩, ⟨by repeat (first | (with_reducible first | exact HB.out | apply below_alloc | apply pw_below_drewN | apply below_drew1) | exact HB.out)⟩⟩
                · rw [if_neg c46] at H
                  have c46b0 : ((rd x6_1 x10_2) == 0) = false := beq_eq_false_iff_ne.mpr c46
                  have c46b1 : ((rd x6_1 x10_2) != 0) = true := bne_iff_ne.mpr c46
                  simp only [Option.some.injEq, Prod.mk.injEq] at H
                  obtain ⟨rfl, rfl⟩ := H
                  obtain ⟨Ao48, co48, eo48⟩ := Kd.R_slice HO_6.out
                  subst eo48
                  have p519 : 0 ≤ (x10_2 : Int) := of_decide_eq_true (by first | (with_reducible assumption) | assumption)
                  have q519 : x10_2 < (x6_1.length : Int) := of_decide_eq_true (by first | (with_reducible assumption) | assumption)
                  obtain ⟨ad519, e519, hx519_0⟩ := Kd.at_int (Kd.R_reads' HO_6.out).2.2 x10_2 p519 q519
                  cases e519
                  replace p519 := eq_true p519
                  replace q519 := eq_true q519
                  go_wp2
                  go_ret2
                  exact ⟨_, by first | rfl | (simp [errW_none, errW_some] <;> rfl) | (simp [*, errW_none, errW_some] <;> rfl), by first | exact Kd.R_nil _ _ _ _ _ | exact Kd.N_nil _ _ _ _ _ | exact Kd.V_nil _ _ _ _ _ | exact Kd.Q_nil _ _ _ _ _ | exact Kd.S_nil _ _ _ _ _, by repeat (first | (with_reducible first | exact HB.out | apply below_alloc | apply pw_below_drewN | apply below_drew1) | exact HB.out)⟩
              · rw [if_neg c45] at H
                exact absurd H (by simp)
            · rw [if_neg c44] at H
              have c44b0 : decide (x10_2 < (x6_1.length : Int)) = false := decide_eq_false c44
              clear c44
              obtain ⟨ji49, hji49⟩ : ∃ j_ : Int, (wrap64 ((l0.length : Int) - 6)) = j_ := ⟨_, rfl⟩
              replace H : (if 0 ≤ (ji49) then (if (ji49) ≤ (x6_1.length : Int) then (some ((x6_1.take ((ji49) : Int).toNat), true)) else (none)) else (none)) = some (r1, r2) := by first | (rw [hji49] at H; exact H) | (simp only [hji49] at H ⊢; exact H)
              have hji49w : (IntKind.i64.wrap ((l0.length : Int) - 6)) = ji49 := (i64_w _).trans hji49
              by_cases c50 : 0 ≤ (ji49)
              · rw [if_pos c50] at H
                have c50b0 := eq_true c50
                have c50b1 : decide (0 ≤ (ji49)) = true := decide_eq_true c50
                clear c50
                by_cases c51 : (ji49) ≤ (x6_1.length : Int)
                · rw [if_pos c51] at H
                  have c51b0 := eq_true c51
                  have c51b1 : decide ((ji49) ≤ (x6_1.length : Int)) = true := decide_eq_true c51
                  clear c51
                  obtain ⟨y520, hy520⟩ : ∃ y_ : List Int, y_ = (x6_1.take ((ji49) : Int).toNat) := ⟨_, rfl⟩
                  replace H : (some (y520, true)) = some (r1, r2) := by first | (rw [hy520]; with_reducible exact H) | (have H2_ := (Option.bind_some _ _).symm.trans H; rw [hy520]; with_reducible exact H2_) | (have H2_ := (Option.bind_some _ _).symm.trans H; with_reducible exact H2_) | with_reducible exact H | (rw [hy520]; exact H) | exact H
                  have Ny520 := Aside0.mk hy520
                  clear hy520
                  simp only [Option.some.injEq, Prod.mk.injEq] at H
                  obtain ⟨rfl, rfl⟩ := H
                  obtain ⟨Ao52, co52, eo52⟩ := Kd.R_slice HO_6.out
                  subst eo52
                  have q53 : ((ji49) : Int) ≤ ((x6_1.length : Int) : Int) := of_decide_eq_true (by first | (with_reducible assumption) | assumption)
                  obtain ⟨i053, hi053, _, hsz53, _⟩ := info_parts info5
                  have hcut53 := cut_to (P := Tryd.prog) 35 5 .i64 Tryd.underlying35 hi053 Ao52 x6_1.length co52 (ji49) (of_decide_eq_true (by first | (with_reducible assumption) | assumption)) q53 (Kd.R_reads' HO_6.out).2.1
                  have hr53 := Kd.R_take (m := ((ji49) : Int).toNat) HO_6.out (by omega)
                  have hy53 : y520.length = ((ji49) : Int).toNat := (by rw [Ny520.out, List.length_take]; omega)
                  rw [← Ny520.out] at hr53
                  rw [← hy53] at hr53 hcut53
                  clear hy53 hi053 hsz53 HO_6
                  have HO522 := Aside0.mk hr53
                  clear hr53
                  replace q53 := eq_true q53
                  go_wp2
                  go_ret2
                  exact ⟨_, by first | rfl | (simp [errW_none, errW_some] <;> rfl) | (simp only [← hji49]; first | rfl | (simp [errW_none, errW_some] <;> rfl)) | (simp [*, errW_none, errW_some] <;> rfl), by (with_reducible repeat (first | apply Kd.R_alloc | apply Kd.R_drewN | apply Kd.R_drew)); exact HO522.out, by repeat (first | (with_reducible first | exact HB.out | apply below_alloc | apply pw_below_drewN | apply below_drew1) | exact HB.out)⟩
                · rw [if_neg c51] at H
                  exact absurd H (by simp)
              · rw [if_neg c50] at H
                exact absurd H (by simp)

end Go.Proofs.YtmajbcglpcagoaaDoor.X

-- YtmajbcglpcagoaaDoorXVersion
namespace Go.Proofs.YtmajbcglpcagoaaDoor.X
open Go.RowKit Go.Proofs.YtmajbcglpcagoaaDoorW.PrintWords Go.Proofs.YtmajbcglpcagoaaDoorW.PrintLast Go.Proofs.YtmajbcglpcagoaaDoorW.PrintMore
set_option linter.unusedVariables false
/-- Which stream a version tells at a step. -/
def strm (v t : Nat) : Nat := (v + t % 4) % 4
theorem strm_lt (v t : Nat) : strm v t < 4 := by unfold strm; omega
theorem stream_f (v t : Nat) (hv : v < 4) (ht : (t : Int) ≤ 9223372036854775807) : pattern_Stream.f (v : Int) (t : Int) = some (((strm v t : Nat) : Int), 0) := by
  unfold pattern_Stream.f pattern_one.f
  rw [if_pos (by omega), if_pos (by omega), decide_eq_true (show (t : Int) ≥ 0 by omega), Option.bind_some, if_pos rfl]
  rw [Int.tmod_eq_emod_of_nonneg (show (0 : Int) ≤ (t : Int) by omega), wrap_in (by omega) (by omega), Int.tmod_eq_emod_of_nonneg (by omega)]
  unfold strm
  congr 2
theorem rstream_f (v t : Nat) (hv : v < 4) (ht : (t : Int) ≤ 9223372036854775807) : shuttleref10_Stream.f (v : Int) (t : Int) = some ((strm v t : Nat) : Int) := by
  unfold shuttleref10_Stream.f
  rw [Int.tmod_eq_emod_of_nonneg (show (0 : Int) ≤ (t : Int) by omega), wrap_in (by omega) (by omega), Int.tmod_eq_emod_of_nonneg (by omega)]
  unfold strm
  congr 1
theorem right_yes {s b : Int} (hs : 0 ≤ s ∧ s ≤ 63) (hb : isb b) : conv_right.f s b = some true := by
  have := isb01 hb
  unfold conv_right.f
  rw [if_pos (by omega), if_pos (by omega), decide_eq_true (by omega)]
theorem Out_f {b : Nat → Int} (hb : ∀ j, isb (b j)) : conv_Out.f (sd b) (b 0) = some (bitB b 0 7, bitB b 1 7, bitB b 2 7, bitB b 3 7, 0) := by
  unfold conv_Out.f
  rw [right_yes (sd_in hb) (hb 0), Option.bind_some, if_pos rfl, word_f (sd_in hb) (hb 0), Option.bind_some]
  rw [show 64 * b 0 + sd b = wd b from rfl, out_f hb, Option.bind_some]
theorem Next_f {b : Nat → Int} (hb : ∀ j, isb (b j)) : conv_Next.f (sd b) (b 0) = some (wd b / 2, 0) := by
  have := wd_in hb
  unfold conv_Next.f
  rw [right_yes (sd_in hb) (hb 0), Option.bind_some, if_pos rfl, word_f (sd_in hb) (hb 0), Option.bind_some]
  rw [show 64 * b 0 + sd b = wd b from rfl, wrap_in (by omega) (by omega)]
/-- What a version alone tells, bit by bit. -/
def dec (p : List Int) (v : Nat) : Nat → List Int
  | 0 => []
  | t + 1 => dec p v t ++ [Go.bits .xor .u8 (bitB (lb (dec p v t) t) (strm v t) 7) (p.getD t 0)]
theorem dec_succ (p : List Int) (v t : Nat) : dec p v (t + 1) = dec p v t ++ [Go.bits .xor .u8 (bitB (lb (dec p v t) t) (strm v t) 7) (p.getD t 0)] := rfl
theorem dec_length (p : List Int) (v : Nat) : ∀ t, (dec p v t).length = t
  | 0 => rfl
  | t + 1 => by unfold dec; rw [List.length_append, dec_length p v t]; rfl
theorem dec_isb {p : List Int} (hp : ∀ x ∈ p, isb x) (v : Nat) : ∀ t, ∀ x ∈ dec p v t, isb x
  | 0 => by intro x hx; cases hx
  | t + 1 => by
    intro x hx
    unfold dec at hx
    rcases List.mem_append.1 hx with h | h
    · exact dec_isb hp v t x h
    · rw [List.mem_singleton.1 h]
      exact xor_isb (bitB_isb (lb_isb (dec_isb hp v t) t) _ _) (getD_isb hp t)
theorem dec_zero (p : List Int) (v t : Nat) : lb (dec p v t) t 0 = 0 := by
  rw [lb_zero, getD_out _ _ (by rw [dec_length]; omega)]
theorem lb_snoc (l : List Int) (x : Int) (t k : Nat) (h : l.length = t) (hk : 1 ≤ k) : lb (l ++ [x]) t k = lb l t k := by
  unfold lb
  by_cases c : k ≤ t
  · rw [if_pos c, if_pos c, List.getD_eq_getElem?_getD, List.getElem?_append_left (by omega), ← List.getD_eq_getElem?_getD]
  · rw [if_neg c, if_neg c]
theorem lb_snoc0 (l : List Int) (x : Int) (t : Nat) (h : l.length = t) : lb (l ++ [x]) t 0 = x := by
  rw [lb_zero, List.getD_eq_getElem?_getD, List.getElem?_append_right (by omega), h]
  simp
theorem sd_snoc (l : List Int) (x : Int) (t : Nat) (h : l.length = t) : sd (lb (l ++ [x]) t) = sd (lb l t) := by
  unfold sd
  rw [lb_snoc l x t 1 h (by omega), lb_snoc l x t 2 h (by omega), lb_snoc l x t 3 h (by omega), lb_snoc l x t 4 h (by omega), lb_snoc l x t 5 h (by omega), lb_snoc l x t 6 h (by omega)]
theorem bit_f {p : List Int} (hp : ∀ x ∈ p, isb x) (v t : Nat) (hv : v < 4) (ht : (t : Int) ≤ 9223372036854775807) :
    version_bit.f (sd (lb (dec p v t) t)) (v : Int) (t : Int) (p.getD t 0) = some ((dec p v (t + 1)).getD t 0, 0) := by
  have hb := lb_isb (dec_isb hp v t) t
  have e0 := Out_f hb
  rw [dec_zero] at e0
  have hd : (dec p v (t + 1)).getD t 0 = Go.bits .xor .u8 (bitB (lb (dec p v t) t) (strm v t) 7) (p.getD t 0) := by
    have := lb_snoc0 (dec p v t) (Go.bits .xor .u8 (bitB (lb (dec p v t) t) (strm v t) 7) (p.getD t 0)) t (dec_length p v t)
    rwa [lb_zero] at this
  rw [hd]
  unfold version_bit.f
  rw [e0, Option.bind_some, if_pos rfl, stream_f v t hv ht, Option.bind_some]
  have hs := strm_lt v t
  generalize strm v t = s at *
  obtain rfl | rfl | rfl | rfl : s = 0 ∨ s = 1 ∨ s = 2 ∨ s = 3 := by omega
  · rfl
  · rfl
  · rfl
  · rfl
theorem weight_l0 (l : List Int) (hl : l.length ≤ 100000) (hb : ∀ x ∈ l, isb x) (d : Nat) : ∀ (k i : Nat) (n : Int), i + d = l.length → d < k → 0 ≤ n → n ≤ i →
    ∃ r, bits_Weight.l0 k n l (l.length : Int) (i : Int) = some r ∧ (r = 0 ↔ n = 0 ∧ (l.drop i).all (fun x => x == 0) = true) := by
  induction d with
  | zero =>
    intro k i n hi hk h0 h1
    obtain ⟨k, rfl⟩ := pred hk
    refine ⟨n, ?_, ?_⟩
    · rw [bits_Weight.l0.eq_2, if_neg (by omega)]
    · rw [List.drop_eq_nil_of_le (by omega)]; simp
  | succ d ih =>
    intro k i n hi hk h0 h1
    obtain ⟨k, rfl⟩ := pred hk
    have hlt : i < l.length := by omega
    rw [bits_Weight.l0.eq_2, if_pos (by omega), if_pos (by omega), if_pos (by omega), rd_get l i hlt, wrap_succ i (by omega), drop_cons l i hlt, List.all_cons]
    by_cases c : l[i] = 0
    · rw [if_pos c]
      obtain ⟨r, e1, e2⟩ := ih k (i + 1) n (by omega) (by omega) h0 (by omega)
      refine ⟨r, e1, ?_⟩
      rw [e2, c]; simp
    · rw [if_neg c, wrap_in (by omega) (by omega)]
      obtain ⟨r, e1, e2⟩ := ih k (i + 1) (n + 1) (by omega) (by omega) (by omega) (by omega)
      refine ⟨r, e1, ?_⟩
      rw [e2, beq_eq_false_iff_ne.2 c]
      constructor
      · intro h; omega
      · intro h; simp at h
theorem weight_f (l : List Int) (hl : l.length ≤ 100000) (hb : ∀ x ∈ l, isb x) (k : Nat) (hk : l.length < k) : ∃ r, bits_Weight.f k l = some r ∧ (r = 0 ↔ l.all (fun x => x == 0) = true) := by
  obtain ⟨r, h1, h2⟩ := weight_l0 l hl hb l.length k 0 0 (by omega) hk (by omega) (by omega)
  exact ⟨r, h1, by rw [h2]; simp⟩
/-- Does what is told end by noughts? -/
def ends (p : List Int) (v : Nat) : Bool := ((dec p v p.length).drop (p.length - 6)).all fun x => x == 0
def told (p : List Int) (v : Nat) : List Int := (dec p v p.length).take (p.length - 6)
theorem alone_l0 (p : List Int) (hp : ∀ x ∈ p, isb x) (v : Nat) (hv : v < 4) (h6 : 6 ≤ p.length) (hl : p.length ≤ 1000) (d : Nat) : ∀ k i : Nat, i + d = p.length → d + 1000 < k →
    version_Alone.l0 k p (v : Int) (dec p v i) (sd (lb (dec p v i) i)) p (p.length : Int) (i : Int) = some (if ends p v = true then (told p v, 0) else ([], 13)) := by
  induction d with
  | zero =>
    intro k i hi hk
    obtain ⟨k, rfl⟩ := pred (show 0 < k by omega)
    obtain rfl : i = p.length := by omega
    have hdl := dec_length p v p.length
    have e6 : wrap64 ((p.length : Int) - 6) = ((p.length - 6 : Nat) : Int) := by rw [wrap_in (by omega) (by omega)]; omega
    rw [version_Alone.l0.eq_2, if_neg (by omega), e6, if_pos (by omega), if_pos (by omega), Int.toNat_natCast]
    obtain ⟨r, h1, h2⟩ := weight_f ((dec p v p.length).drop (p.length - 6)) (by rw [List.length_drop]; omega) (fun x hx => dec_isb hp v _ x (List.mem_of_mem_drop hx)) k (by rw [List.length_drop]; omega)
    rw [h1, Option.bind_some]
    unfold slices_Clone_byte_byte.f
    by_cases c : ends p v = true
    · rw [if_pos c, if_pos (h2.2 c), if_pos (by rw [List.length_take]; omega), Option.bind_some]; rfl
    · rw [if_neg c, if_neg (fun h => c (h2.1 h))]
  | succ d ih =>
    intro k i hi hk
    obtain ⟨k, rfl⟩ := pred (show 0 < k by omega)
    have hn := ih k (i + 1) (by omega) (by omega)
    have hb := lb_isb (dec_isb hp v (i + 1)) i
    have hdl := dec_length p v i
    have e1 := bit_f hp v i hv (by omega)
    have hlb0 : lb (dec p v (i + 1)) i 0 = (dec p v (i + 1)).getD i 0 := lb_zero _ _
    have hsd : sd (lb (dec p v (i + 1)) i) = sd (lb (dec p v i) i) := sd_snoc _ _ _ hdl
    have e2 := Next_f hb
    rw [hsd, hlb0] at e2
    have e3 : wd (lb (dec p v (i + 1)) i) / 2 = sd (lb (dec p v (i + 1)) (i + 1)) := (sd_succ _ (dec_isb hp v (i + 1)) i).symm
    have e4 : dec p v i ++ [(dec p v (i + 1)).getD i 0] = dec p v (i + 1) := by
      have : (dec p v (i + 1)).getD i 0 = Go.bits .xor .u8 (bitB (lb (dec p v i) i) (strm v i) 7) (p.getD i 0) := by
        have h := lb_snoc0 (dec p v i) (Go.bits .xor .u8 (bitB (lb (dec p v i) i) (strm v i) 7) (p.getD i 0)) i hdl
        rwa [lb_zero] at h
      rw [this]; rfl
    rw [version_Alone.l0.eq_2, if_pos (by omega), if_pos (by omega), if_pos (by omega), rd_getD, e1, Option.bind_some, if_pos rfl, if_pos (by omega), e2, Option.bind_some, if_pos rfl, e3, wrap_succ i (by omega)]
    show version_Alone.l0 k p (v : Int) (dec p v i ++ [(dec p v (i + 1)).getD i 0]) _ p _ _ = _
    rw [e4]
    exact hn
theorem alone_f (p : List Int) (hp : ∀ x ∈ p, isb x) (v : Nat) (hv : v < 4) (h6 : 6 ≤ p.length) (hl : p.length ≤ 1000) (k : Nat) (hk : 2000 < k) :
    version_Alone.f k p (v : Int) = some (if ends p v = true then (told p v, 0) else ([], 13)) := by
  unfold version_Alone.f
  rw [right_f p (by omega) k (by omega), (big_isb (fun x hx => (isb01 (hp x hx)).1)).2 hp, Option.bind_some, if_pos (show (!false) = true from rfl), if_neg (by omega), if_neg (by omega), if_neg (by omega)]
  have := alone_l0 p hp v hv h6 hl p.length k 0 (by omega) (by omega)
  rw [show sd (lb (dec p v 0) 0) = 0 from sd_start _] at this
  exact this
theorem ralone_l1 (p : List Int) (hp : ∀ x ∈ p, isb x) (v : Nat) (h6 : 6 ≤ p.length) (hl : p.length ≤ 1000) (d : Nat) : ∀ k i : Nat, i + d = p.length → d < k → p.length - 6 ≤ i →
    shuttleref11_Alone.l1 k (dec p v p.length) ((p.length - 6 : Nat) : Int) (i : Int) = some (if ((dec p v p.length).drop i).all (fun x => x == 0) = true then (told p v, true) else ([], false)) := by
  have hdl := dec_length p v p.length
  induction d with
  | zero =>
    intro k i hi hk h7
    obtain ⟨k, rfl⟩ := pred hk
    rw [shuttleref11_Alone.l1.eq_2, if_neg (by omega), if_pos (by omega), if_pos (by omega), Int.toNat_natCast, List.drop_eq_nil_of_le (by omega)]
    rfl
  | succ d ih =>
    intro k i hi hk h7
    obtain ⟨k, rfl⟩ := pred hk
    have hlt : i < (dec p v p.length).length := by omega
    have hn := ih k (i + 1) (by omega) (by omega) (by omega)
    rw [shuttleref11_Alone.l1.eq_2, if_pos (by omega), if_pos (by omega), rd_get _ i hlt, wrap_succ i (by omega), drop_cons _ i hlt, List.all_cons]
    by_cases c : (dec p v p.length)[i] = 0
    · rw [if_pos c, c, hn]; simp
    · rw [if_neg c, beq_eq_false_iff_ne.2 c]; simp
theorem xor_eq {x y : Int} (hx : isb x) (hy : isb y) : Go.bits .xor .u8 x y = if x = y then 0 else 1 := by
  rcases hx with rfl | rfl <;> rcases hy with rfl | rfl <;> decide +kernel
theorem ralone_l0 (p : List Int) (hp : ∀ x ∈ p, isb x) (v : Nat) (hv : v < 4) (h6 : 6 ≤ p.length) (hl : p.length ≤ 1000) (d : Nat) : ∀ k i : Nat, i + d = p.length → d + 1000 < k →
    shuttleref11_Alone.l0 k p (v : Int) (dec p v i) (i : Int) = some (if ends p v = true then (told p v, true) else ([], false)) := by
  induction d with
  | zero =>
    intro k i hi hk
    obtain ⟨k, rfl⟩ := pred (show 0 < k by omega)
    obtain rfl : i = p.length := by omega
    have e6 : wrap64 ((p.length : Int) - 6) = ((p.length - 6 : Nat) : Int) := by rw [wrap_in (by omega) (by omega)]; omega
    rw [shuttleref11_Alone.l0.eq_2, if_neg (by omega), e6]
    exact ralone_l1 p hp v h6 hl 6 k (p.length - 6) (by omega) (by omega) (by omega)
  | succ d ih =>
    intro k i hi hk
    obtain ⟨k, rfl⟩ := pred (show 0 < k by omega)
    have hn := ih k (i + 1) (by omega) (by omega)
    have hdl := dec_length p v i
    have hd := dec_isb hp v i
    have hd0 : ∀ x ∈ dec p v i ++ [(0 : Int)], isb x := by
      intro x hx
      rcases List.mem_append.1 hx with h | h
      · exact hd x h
      · rw [List.mem_singleton.1 h]; exact .inl rfl
    have eb : shuttleref06_Bit.f (dec p v i ++ [0]) (i : Int) ((strm v i : Nat) : Int) = some (bitB (lb (dec p v i) i) (strm v i) 7) := by
      rw [rbit_f _ hd0 i (strm v i) (by omega) (strm_lt v i)]
      refine congrArg some (bitB_congr _ 7 fun j hj => ?_)
      by_cases c : j = 0
      · subst c; rw [lb_snoc0 _ _ _ hdl, dec_zero]
      · exact lb_snoc _ _ _ _ hdl (by omega)
    have hx := xor_eq (bitB_isb (lb_isb hd i) (strm v i) 7) (getD_isb hp i)
    have ed : dec p v (i + 1) = dec p v i ++ [if bitB (lb (dec p v i) i) (strm v i) 7 = p.getD i 0 then 0 else 1] := by rw [dec_succ, hx]
    rw [ed] at hn
    rw [shuttleref11_Alone.l0.eq_2, if_pos (by omega), Option.bind_some, List.length_nil, if_pos (by omega), Option.bind_some, Option.bind_some, List.nil_append, if_pos (by show (dec p v i).length + 1 < _; omega), rstream_f v i hv (by omega), Option.bind_some, eb, Option.bind_some, if_pos (by omega), rd_getD, wrap_succ i (by omega)]
    by_cases c : bitB (lb (dec p v i) i) (strm v i) 7 = p.getD i 0
    · rw [if_pos c] at hn ⊢
      rw [Option.bind_some, if_pos (by show (dec p v i).length + 1 < _; omega)]
      exact hn
    · rw [if_neg c] at hn ⊢
      rw [Option.bind_some, if_pos (by show (dec p v i).length + 1 < _; omega)]
      exact hn
theorem ralone_f (p : List Int) (hp : ∀ x ∈ p, isb x) (v : Nat) (hv : v < 4) (h6 : 6 ≤ p.length) (hl : p.length ≤ 1000) (k : Nat) (hk : 2000 < k) :
    shuttleref11_Alone.f k p (v : Int) = some (if ends p v = true then (told p v, true) else ([], false)) :=
  ralone_l0 p hp v hv h6 hl p.length k 0 (by omega) (by omega)
end Go.Proofs.YtmajbcglpcagoaaDoor.X

-- YtmajbcglpcagoaaDoorXVersion2
namespace Go.Proofs.YtmajbcglpcagoaaDoor.X
open Go.RowKit Go.Proofs.YtmajbcglpcagoaaDoorW.PrintWords Go.Proofs.YtmajbcglpcagoaaDoorW.PrintLast Go.Proofs.YtmajbcglpcagoaaDoorW.PrintMore
set_option linter.unusedVariables false
/-- A version's first m bits. -/
def pk (c : List Int) (v : Nat) : Nat → List Int
  | 0 => []
  | m + 1 => pk c v m ++ [c.getD (4 * m + strm v m) 0]
theorem pk_length (c : List Int) (v : Nat) : ∀ m, (pk c v m).length = m
  | 0 => rfl
  | m + 1 => by unfold pk; rw [List.length_append, pk_length c v m]; rfl
theorem pk_getD (c : List Int) (v : Nat) : ∀ m t, t < m → (pk c v m).getD t 0 = c.getD (4 * t + strm v t) 0
  | 0, t, h => by omega
  | m + 1, t, h => by
    unfold pk
    rw [List.getD_eq_getElem?_getD]
    by_cases e : t < m
    · rw [List.getElem?_append_left (by rw [pk_length]; omega), ← List.getD_eq_getElem?_getD]
      exact pk_getD c v m t e
    · obtain rfl : t = m := by omega
      rw [List.getElem?_append_right (by rw [pk_length]; omega), pk_length]
      simp
theorem pk_isb {c : List Int} (h : ∀ x ∈ c, isb x) (v : Nat) : ∀ m, ∀ x ∈ pk c v m, isb x
  | 0 => by intro x hx; cases hx
  | m + 1 => by
    intro x hx
    unfold pk at hx
    rcases List.mem_append.1 hx with k | k
    · exact pk_isb h v m x k
    · rw [List.mem_singleton.1 k]; exact getD_isb h _
/-- How many bits of a version stand among a code's first i. -/
def cnt (v i : Nat) : Nat := i / 4 + if strm v (i / 4) < i % 4 then 1 else 0
theorem cnt_here (v i : Nat) (hv : v < 4) (h : strm v (i / 4) = i % 4) : cnt v i = i / 4 ∧ cnt v (i + 1) = i / 4 + 1 ∧ i = 4 * (i / 4) + strm v (i / 4) := by
  unfold cnt
  refine ⟨by rw [if_neg (by omega)]; rfl, ?_, by omega⟩
  by_cases c : i % 4 = 3
  · have e : (i + 1) / 4 = i / 4 + 1 := by omega
    rw [e, if_neg (by omega)]
  · have e : (i + 1) / 4 = i / 4 := by omega
    rw [e, if_pos (by omega)]
theorem cnt_else (v i : Nat) (hv : v < 4) (h : strm v (i / 4) ≠ i % 4) : cnt v (i + 1) = cnt v i := by
  have hs := strm_lt v (i / 4)
  unfold cnt
  by_cases c : i % 4 = 3
  · have e : (i + 1) / 4 = i / 4 + 1 := by omega
    rw [e, if_neg (by omega), if_pos (by omega)]
  · have e : (i + 1) / 4 = i / 4 := by omega
    rw [e]
    by_cases c2 : strm v (i / 4) < i % 4
    · rw [if_pos c2, if_pos (by omega)]
    · rw [if_neg c2, if_neg (by omega)]
theorem cnt_len (v m : Nat) : cnt v (4 * m) = m := by
  unfold cnt
  rw [if_neg (by omega)]; omega
theorem pk_step (c : List Int) (v i : Nat) (hv : v < 4) (h : strm v (i / 4) = i % 4) : pk c v (cnt v i) ++ [c.getD i 0] = pk c v (cnt v (i + 1)) := by
  obtain ⟨h1, h2, h3⟩ := cnt_here v i hv h
  rw [h2, h1]
  show _ = pk c v (i / 4) ++ [c.getD (4 * (i / 4) + strm v (i / 4)) 0]
  rw [← h3]
theorem cnt_le (v i : Nat) : cnt v i ≤ i + 1 := by unfold cnt; split <;> omega
theorem vers_f (i : Nat) (hi : (i : Int) ≤ 1000000) : pattern_Version.f (Int.tmod (i : Int) 4) (wrap64 (Int.tdiv (i : Int) 4)) = some ((((i % 4 + 4 - i / 4 % 4) % 4 : Nat) : Int), 0) := by
  unfold pattern_Version.f pattern_one.f
  have e1 : Int.tmod (i : Int) 4 = ((i % 4 : Nat) : Int) := by rw [Int.tmod_eq_emod_of_nonneg (by omega)]; omega
  have e2 : Int.tdiv (i : Int) 4 = ((i / 4 : Nat) : Int) := by rw [Int.tdiv_eq_ediv_of_nonneg (by omega)]; omega
  rw [e1, e2, wrap_in (n := ((i / 4 : Nat) : Int)) (by omega) (by omega), if_pos (by omega), if_pos (by omega), decide_eq_true (show ((i / 4 : Nat) : Int) ≥ 0 by omega), Option.bind_some, if_pos rfl]
  have e3 : Int.tmod ((i / 4 : Nat) : Int) 4 = ((i / 4 % 4 : Nat) : Int) := by rw [Int.tmod_eq_emod_of_nonneg (by omega)]; omega
  rw [e3, wrap_in (n := ((i % 4 : Nat) : Int) + 4) (by omega) (by omega), wrap_in (by omega) (by omega), Int.tmod_eq_emod_of_nonneg (by omega)]
  refine congrArg some (Prod.ext ?_ rfl)
  show _ = (((i % 4 + 4 - i / 4 % 4) % 4 : Nat) : Int)
  omega
theorem split_l0 (c : List Int) (hl : c.length ≤ 100000) (d : Nat) : ∀ k i : Nat, i + d = c.length → d < k →
    version_Split.l0 k c (c.length : Int) (i : Int) (pk c 0 (cnt 0 i)) (pk c 1 (cnt 1 i)) (pk c 2 (cnt 2 i)) (pk c 3 (cnt 3 i)) = some (pk c 0 (cnt 0 c.length), pk c 1 (cnt 1 c.length), pk c 2 (cnt 2 c.length), pk c 3 (cnt 3 c.length), 0) := by
  induction d with
  | zero =>
    intro k i hi hk
    obtain ⟨k, rfl⟩ := pred hk
    obtain rfl : i = c.length := by omega
    rw [version_Split.l0.eq_2, if_neg (by omega)]
  | succ d ih =>
    intro k i hi hk
    obtain ⟨k, rfl⟩ := pred hk
    have hn := ih k (i + 1) (by omega) (by omega)
    have l0 := cnt_le 0 i; have l1 := cnt_le 1 i; have l2 := cnt_le 2 i; have l3 := cnt_le 3 i
    rw [version_Split.l0.eq_2, if_pos (by omega), if_pos (by omega), if_pos (by omega), vers_f i (by omega), Option.bind_some, if_pos rfl, wrap_succ i (by omega), rd_getD]
    obtain ⟨w, hw⟩ : ∃ w, (i % 4 + 4 - i / 4 % 4) % 4 = w := ⟨_, rfl⟩
    have hw4 : w < 4 := by omega
    have hhere : strm w (i / 4) = i % 4 := by unfold strm; omega
    have helse : ∀ u, u < 4 → u ≠ w → strm u (i / 4) ≠ i % 4 := by intro u hu hne; unfold strm; omega
    rw [hw]
    obtain rfl | rfl | rfl | rfl : w = 0 ∨ w = 1 ∨ w = 2 ∨ w = 3 := by omega
    · rw [show ((0 : Nat) : Int) = 0 from rfl, if_pos rfl, if_pos (by rw [pk_length]; omega), pk_step c 0 i (by omega) hhere, ← cnt_else 1 i (by omega) (helse 1 (by omega) (by omega)), ← cnt_else 2 i (by omega) (helse 2 (by omega) (by omega)), ← cnt_else 3 i (by omega) (helse 3 (by omega) (by omega))]
      exact hn
    · rw [show ((1 : Nat) : Int) = 1 from rfl, if_neg (by decide), if_pos rfl, if_pos (by rw [pk_length]; omega), pk_step c 1 i (by omega) hhere, ← cnt_else 0 i (by omega) (helse 0 (by omega) (by omega)), ← cnt_else 2 i (by omega) (helse 2 (by omega) (by omega)), ← cnt_else 3 i (by omega) (helse 3 (by omega) (by omega))]
      exact hn
    · rw [show ((2 : Nat) : Int) = 2 from rfl, if_neg (by decide), if_neg (by decide), if_pos rfl, if_pos (by rw [pk_length]; omega), pk_step c 2 i (by omega) hhere, ← cnt_else 0 i (by omega) (helse 0 (by omega) (by omega)), ← cnt_else 1 i (by omega) (helse 1 (by omega) (by omega)), ← cnt_else 3 i (by omega) (helse 3 (by omega) (by omega))]
      exact hn
    · rw [show ((3 : Nat) : Int) = 3 from rfl, if_neg (by decide), if_neg (by decide), if_neg (by decide), if_pos rfl, if_pos (by rw [pk_length]; omega), pk_step c 3 i (by omega) hhere, ← cnt_else 0 i (by omega) (helse 0 (by omega) (by omega)), ← cnt_else 1 i (by omega) (helse 1 (by omega) (by omega)), ← cnt_else 2 i (by omega) (helse 2 (by omega) (by omega))]
      exact hn
theorem split_f (c : List Int) (hc : ∀ x ∈ c, isb x) (m : Nat) (hm : c.length = 4 * m) (hl : c.length ≤ 100000) (k : Nat) (hk : c.length < k) :
    version_Split.f k c = some (pk c 0 m, pk c 1 m, pk c 2 m, pk c 3 m, 0) := by
  unfold version_Split.f
  rw [right_f c (by omega) k (by omega), (big_isb (fun x hx => (isb01 (hc x hx)).1)).2 hc, Option.bind_some, if_pos (show (!false) = true from rfl), if_pos (by omega)]
  have := split_l0 c hl c.length k 0 (by omega) hk
  rw [hm, cnt_len, cnt_len, cnt_len, cnt_len] at this
  rw [hm]
  exact this
theorem vcode_f (l : List Int) (h : ∀ x ∈ l, isb x) (hl : l.length ≤ 1000) (v : Nat) (hv : v < 4) (k : Nat) (hk : 10000 < k) : version_Code.f k l (v : Int) = some (pk (code l) v (l.length + 6), 0) := by
  have hc := code_length l
  unfold version_Code.f
  rw [Code_f l h (by omega) k (by omega), Option.bind_some, if_pos rfl, if_neg (by omega), if_neg (by omega),
    split_f (code l) (codeN_isb h _) (l.length + 6) hc (by omega) k (by omega), Option.bind_some]
  obtain rfl | rfl | rfl | rfl : v = 0 ∨ v = 1 ∨ v = 2 ∨ v = 3 := by omega
  · rw [show ((0 : Nat) : Int) = 0 from rfl, if_pos rfl]
  · rw [show ((1 : Nat) : Int) = 1 from rfl, if_neg (by decide), if_pos rfl]
  · rw [show ((2 : Nat) : Int) = 2 from rfl, if_neg (by decide), if_neg (by decide), if_pos rfl]
  · rw [show ((3 : Nat) : Int) = 3 from rfl, if_neg (by decide), if_neg (by decide), if_neg (by decide), if_pos rfl]
/-- A list with noughts behind. -/
def pad (l : List Int) : List Int := l ++ List.replicate 6 0
theorem pad_isb {l : List Int} (h : ∀ x ∈ l, isb x) : ∀ x ∈ pad l, isb x := by
  intro x hx
  rcases List.mem_append.1 hx with k | k
  · exact h x k
  · rw [List.eq_of_mem_replicate k]; exact .inl rfl
theorem pad_getD (l : List Int) (t : Nat) : (pad l).getD t 0 = l.getD t 0 := by
  unfold pad
  by_cases c : t < l.length
  · rw [List.getD_eq_getElem?_getD, List.getElem?_append_left c, ← List.getD_eq_getElem?_getD]
  · rw [getD_out l t (by omega), List.getD_eq_getElem?_getD, List.getElem?_append_right (by omega), List.getElem?_replicate]
    split <;> rfl
theorem take_succ_getD (l : List Int) (t : Nat) (h : t < l.length) : l.take (t + 1) = l.take t ++ [l.getD t 0] := by
  rw [take_snoc l t h, List.getD_eq_getElem?_getD, List.getElem?_eq_getElem h]; rfl
theorem lb_take (l : List Int) (t k : Nat) (hk : 1 ≤ k) : lb (l.take t) t k = lb l t k := by
  unfold lb
  by_cases c : k ≤ t
  · rw [if_pos c, if_pos c, take_getD l t (t - k) (by omega)]
  · rw [if_neg c, if_neg c]
theorem newest_xor : ∀ w : Fin 64, ∀ s : Fin 4, Go.bits .xor .u8 (bitB (bw w.val) s.val 7) (bitB (bw w.val) s.val 7) = 0 ∧ Go.bits .xor .u8 (bitB (bw w.val) s.val 7) (bitB (bw (64 + w.val)) s.val 7) = 1 := by decide +kernel
theorem decode_bit {b c : Nat → Int} (hb : ∀ j, isb (b j)) (hc : ∀ j, isb (c j)) (h : ∀ j, 1 ≤ j → j ≤ 6 → b j = c j) (h0 : b 0 = 0) (s : Nat) (hs : s < 4) : Go.bits .xor .u8 (bitB b s 7) (bitB c s 7) = c 0 := by
  have hsd : sd b = sd c := by
    unfold sd
    rw [h 1 (by omega) (by omega), h 2 (by omega) (by omega), h 3 (by omega) (by omega), h 4 (by omega) (by omega), h 5 (by omega) (by omega), h 6 (by omega) (by omega)]
  have i1 := sd_in hb
  rw [bitB_wd hb, bitB_wd hc]
  have n1 := newest_xor ⟨(sd b).toNat, by omega⟩ ⟨s, hs⟩
  have e1 : wd b = 64 * b 0 + sd b := rfl
  have e2 : wd c = 64 * c 0 + sd b := by rw [hsd]; rfl
  rw [e1, e2, h0]
  rcases hc 0 with k0 | k0
  · rw [k0, show (64 * 0 + sd b).toNat = (sd b).toNat from by omega]; exact n1.1
  · rw [k0, show (64 * 0 + sd b).toNat = (sd b).toNat from by omega, show (64 * 1 + sd b).toNat = 64 + (sd b).toNat from by omega]; exact n1.2
/-- A version of a code alone tells the list. -/
theorem dec_code (l : List Int) (h : ∀ x ∈ l, isb x) (v : Nat) (hv : v < 4) : ∀ t, t ≤ l.length + 6 → dec (pk (code l) v (l.length + 6)) v t = (pad l).take t
  | 0, _ => rfl
  | t + 1, ht => by
    have hpl : (pad l).length = l.length + 6 := by unfold pad; rw [List.length_append, List.length_replicate]
    rw [dec_succ, dec_code l h v hv t (by omega), take_succ_getD (pad l) t (by omega), pk_getD _ _ _ t (by omega)]
    congr 2
    unfold code
    rw [codeN_getD l t (strm v t) (strm_lt v t) _ (by omega)]
    have ht' := take_isb (pad_isb h) t
    have elb : ∀ j, lb (pad l) t j = lb l t j := by
      intro j
      unfold lb
      split
      · exact pad_getD l _
      · rfl
    rw [decode_bit (lb_isb ht' t) (lb_isb h t) (fun j h1 h2 => by rw [lb_take _ _ _ h1, elb]) (by rw [lb_zero, getD_out _ _ (by rw [List.length_take]; omega)]) (strm v t) (strm_lt v t), lb_zero, pad_getD]
theorem told_code (l : List Int) (h : ∀ x ∈ l, isb x) (v : Nat) (hv : v < 4) : told (pk (code l) v (l.length + 6)) v = l ∧ ends (pk (code l) v (l.length + 6)) v = true := by
  have hpl : (pad l).length = l.length + 6 := by unfold pad; rw [List.length_append, List.length_replicate]
  have e := dec_code l h v hv (l.length + 6) (Nat.le_refl _)
  rw [List.take_of_length_le (by omega)] at e
  unfold told ends
  rw [pk_length, e, show l.length + 6 - 6 = l.length from by omega]
  unfold pad
  refine ⟨by rw [List.take_left], ?_⟩
  rw [List.drop_left]
  rfl
/-- What decodes to the same list is the same. -/
theorem dec_inj {p q : List Int} (hp : ∀ x ∈ p, isb x) (hq : ∀ x ∈ q, isb x) (v : Nat) : ∀ t, dec p v t = dec q v t → ∀ j, j < t → p.getD j 0 = q.getD j 0
  | 0, _, j, h => by omega
  | t + 1, e, j, h => by
    rw [dec_succ, dec_succ] at e
    obtain ⟨e1, e2⟩ := List.append_inj e (by rw [dec_length, dec_length])
    by_cases c : j < t
    · exact dec_inj hp hq v t e1 j c
    · obtain rfl : j = t := by omega
      rw [e1] at e2
      have e3 := (List.cons.inj e2).1
      have hB := bitB_isb (lb_isb (dec_isb hq v j) j) (strm v j) 7
      have ha := getD_isb hp j
      have hb := getD_isb hq j
      rw [xor_eq hB ha, xor_eq hB hb] at e3
      rcases hB with h0 | h0 <;> rcases ha with h1 | h1 <;> rcases hb with h2 | h2 <;> rw [h0, h1, h2] at e3 <;> rw [h1, h2] <;> first | rfl | (exfalso; revert e3; decide)
end Go.Proofs.YtmajbcglpcagoaaDoor.X

-- YtmajbcglpcagoaaDoorXPick
namespace Go.Proofs.YtmajbcglpcagoaaDoor.X
open Go.RowKit Go.Proofs.YtmajbcglpcagoaaDoorW.PrintWords Go.Proofs.YtmajbcglpcagoaaDoorW.PrintLast Go.Proofs.YtmajbcglpcagoaaDoorW.PrintMore
set_option linter.unusedVariables false
theorem pick_l0 (c : List Int) (v : Nat) (hv : v < 4) (m : Nat) (hm : c.length = 4 * m) (hl : m ≤ 100000) (d : Nat) : ∀ k i : Nat, i + d = m → d < k →
    shuttleref10_Pick.l0 k c (v : Int) (pk c v i) (i : Int) = some (pk c v m) := by
  induction d with
  | zero =>
    intro k i hi hk
    obtain ⟨k, rfl⟩ := pred hk
    obtain rfl : i = m := by omega
    rw [shuttleref10_Pick.l0.eq_2, wrap_in (by omega) (by omega), if_neg (by omega)]
  | succ d ih =>
    intro k i hi hk
    obtain ⟨k, rfl⟩ := pred hk
    have hn := ih k (i + 1) (by omega) (by omega)
    have hs := strm_lt v i
    have ei : wrap64 (4 * (i : Int) + ((strm v i : Nat) : Int)) = ((4 * i + strm v i : Nat) : Int) := by rw [wrap_in (by omega) (by omega)]; omega
    rw [shuttleref10_Pick.l0.eq_2, wrap_in (n := 4 * (i : Int)) (by omega) (by omega), if_pos (by omega), rstream_f v i hv (by omega), Option.bind_some, ei, if_pos (by omega), if_pos (by omega), if_pos (by rw [pk_length]; omega), rd_getD, wrap_succ i (by omega)]
    exact hn
theorem pick_f (c : List Int) (v : Nat) (hv : v < 4) (m : Nat) (hm : c.length = 4 * m) (hl : m ≤ 100000) (k : Nat) (hk : m < k) : shuttleref10_Pick.f k c (v : Int) = some (pk c v m) :=
  pick_l0 c v hv m hm hl m k 0 (by omega) (by omega)
end Go.Proofs.YtmajbcglpcagoaaDoor.X

-- YtmajbcglpcagoaaDoorPureVersionCodes
namespace Go.Proofs.YtmajbcglpcagoaaDoor.Pure
open Go.RowKit Go.Proofs.YtmajbcglpcagoaaDoor.X Go.Proofs.YtmajbcglpcagoaaDoorW.PrintWords Go.Proofs.YtmajbcglpcagoaaDoorW.PrintLast Go.Proofs.YtmajbcglpcagoaaDoorW.PrintMore
set_option linter.unusedVariables false

theorem mn_nat100 (a : Nat) : mn (a : Int) 100 = ((min a 100 : Nat) : Int) := by unfold mn; split <;> omega
theorem splits_ok3 : shuttlelaw11_splits.f (20000 + 1) = some true := by decide +kernel
theorem VersionCodes : shuttlelaw11_VersionCodes.Pure := by
  intro l0 a1 m0 _ w0 w1
  refine ⟨20000 + 1, ?_⟩
  unfold shuttlelaw11_VersionCodes.f
  rw [mn_nat100, Option.bind_some, if_pos (by omega), if_pos (by omega), Int.toNat_natCast, List.length_nil, Nat.zero_add, List.nil_append]
  have hl : (l0.take (min l0.length 100)).length ≤ 100 := by rw [List.length_take]; omega
  have hw : ∀ x ∈ l0.take (min l0.length 100), 0 ≤ x ∧ x ≤ 255 := fun x hx => u8_of_wf w0 x (List.mem_of_mem_take hx)
  generalize l0.take (min l0.length 100) = l at *
  rw [if_pos (by omega), Option.bind_some]
  cases hb : l.any big with
  | true =>
    have e1 : version_Code.f (20000 + 1) l a1 = some ([], 5) := by
      unfold version_Code.f
      rw [Code_no l hb (by omega) (20000 + 1) (by omega), Option.bind_some, if_neg (by decide)]
    rw [e1, Option.bind_some, splits_ok3, Option.bind_some, if_pos rfl, rright_f l (by omega) (20000 + 1) (by omega), hb, Option.bind_some, if_neg (by decide), if_pos rfl]
    rfl
  | false =>
    have hp := (big_isb (fun x hx => (hw x hx).1)).1 hb
    have hc := Code_f l hp (by omega) (20000 + 1) (by omega)
    have err : shuttleref01_Right.f (20000 + 1) l = some true := by rw [rright_f l (by omega) (20000 + 1) (by omega), hb]; rfl
    by_cases c1 : a1 < 0
    · have e1 : version_Code.f (20000 + 1) l a1 = some ([], 1) := by
        unfold version_Code.f
        rw [hc, Option.bind_some, if_pos rfl, if_pos c1]
      rw [e1, Option.bind_some, splits_ok3, Option.bind_some, if_pos rfl, err, Option.bind_some, if_pos rfl, if_pos c1, shuttlelaw11_VersionCodes.j0.eq_2, if_pos rfl, if_pos rfl]
      rfl
    · by_cases c2 : a1 > 3
      · have e1 : version_Code.f (20000 + 1) l a1 = some ([], 1) := by
          unfold version_Code.f
          rw [hc, Option.bind_some, if_pos rfl, if_neg c1, if_pos (by omega)]
        rw [e1, Option.bind_some, splits_ok3, Option.bind_some, if_pos rfl, err, Option.bind_some, if_pos rfl, if_neg c1, decide_eq_true c2, shuttlelaw11_VersionCodes.j0.eq_2, if_pos rfl, if_pos rfl]
        rfl
      · obtain ⟨v, rfl⟩ := Int.eq_ofNat_of_zero_le (show 0 ≤ a1 by omega)
        have hv4 : v < 4 := by omega
        have hcl := code_length l
        have hpl := pk_length (code l) v (l.length + 6)
        have hpb := pk_isb (codeN_isb hp (l.length + 6)) v (l.length + 6)
        have ht := told_code l hp v hv4
        have hal := alone_f (pk (code l) v (l.length + 6)) hpb v hv4 (by omega) (by omega) 20000 (by omega)
        rw [ht.1, ht.2, if_pos rfl] at hal
        have hpk := pick_f (code l) v hv4 (l.length + 6) hcl (by omega) 20000 (by omega)
        rw [vcode_f l hp (by omega) v hv4 (20000 + 1) (by omega), Option.bind_some, splits_ok3, Option.bind_some, if_pos rfl, err, Option.bind_some, if_pos rfl, if_neg c1, decide_eq_false c2, shuttlelaw11_VersionCodes.j0.eq_2, if_neg (by decide)]
        change ((version_Alone.f 20000 (pk (code l) v (l.length + 6)) (v : Int)).bind _) = _
        rw [hal, Option.bind_some, if_pos rfl, rcode_f l hp (by omega) 20000 (by omega), Option.bind_some, hpk, Option.bind_some, if_pos rfl]
        unfold version_Bits.f conv_Steps.f
        rw [if_neg (by omega), Option.bind_some, Option.bind_some, wrap_in (by omega) (by omega)]
        rw [if_pos (show ((pk (code l) v (l.length + 6)).length : Int) = (l.length : Int) + 6 by rw [hpl]; omega), if_pos rfl]
        simp

end Go.Proofs.YtmajbcglpcagoaaDoor.Pure
