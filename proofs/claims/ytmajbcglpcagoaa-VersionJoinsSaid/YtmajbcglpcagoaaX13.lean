-- Made by xprint.py (an own driver round the kit's print.py), with contracts of this session's own. Lean checks it.
import Derived.Test.YtmajbcglpcagoaaX0
import Derived.Test.YtmajbcglpcagoaaX12
namespace Go.Proofs.Ytmajbcglpcagoaa.X
open Go.RowKit Go.Proofs.YtmajbcglpcagoaaW.PrintWords Go.Proofs.YtmajbcglpcagoaaW.PrintLast Go.Proofs.YtmajbcglpcagoaaW.PrintMore
attribute [local go_sem] max2_int min2_int max_two min_two max_three min_three max_four min_four   -- for this text's walks alone
set_option linter.unusedVariables false
set_option linter.unusedSimpArgs false

/-! ### shuttleref10_Pick: function 11 -/
def shuttleref10_Pick.l0 : Nat → List Int → Int → List Int → Int → Option (List Int)
  | 0, _, _, _, _ => none
  | k + 1, x0, x1, x5, x6 => if (wrap64 (4 * x6)) < (x0.length : Int) then ((shuttleref10_Stream.f x1 x6).bind fun t144 => (if 0 ≤ (wrap64 ((wrap64 (4 * x6)) + t144)) then (if (wrap64 ((wrap64 (4 * x6)) + t144)) < (x0.length : Int) then (if x5.length < 140737488355328 then (shuttleref10_Pick.l0 k x0 x1 (x5 ++ [rd x0 (wrap64 ((wrap64 (4 * x6)) + t144))]) (wrap64 (x6 + 1))) else (none)) else (none)) else (none))) else (some x5)
def shuttleref10_Pick.f (k : Nat) (l0 : List Int) (a1 : Int) : Option (List Int) := shuttleref10_Pick.l0 k l0 a1 ([] : List Int) 0
theorem shuttleref10_Pick.mono_l : ∀ k, (∀ y0 y1 y2 y3, LeO (shuttleref10_Pick.l0 k y0 y1 y2 y3) (shuttleref10_Pick.l0 (k + 1) y0 y1 y2 y3))
  | 0 => fun _ _ _ _ r h => by simp [shuttleref10_Pick.l0] at h
  | k + 1 => by
    have ih0 := shuttleref10_Pick.mono_l k
    · intro y0 y1 y2 y3
      unfold shuttleref10_Pick.l0
      repeat' first
      | (with_reducible exact ih0 _ _ _ _)
      | (with_reducible exact LeO.refl _)
      | (with_reducible exact LeO.none _)
      | (with_reducible refine LeO.ite ?_ ?_)
      | (with_reducible refine LeO.bind ?_ (fun _ => ?_))
      | exact ih0 _ _ _ _
      | exact LeO.none _
      | refine LeO.ite ?_ ?_
      | refine LeO.bind ?_ (fun _ => ?_)
theorem shuttleref10_Pick.mono : ∀ a0 a1 k, LeO (shuttleref10_Pick.f k a0 a1) (shuttleref10_Pick.f (k + 1) a0 a1) := by
  intro a0 a1 k
  have ih0 := shuttleref10_Pick.mono_l k
  unfold shuttleref10_Pick.f
  repeat' first
      | (with_reducible exact ih0 _ _ _ _)
      | (with_reducible exact LeO.refl _)
      | (with_reducible exact LeO.none _)
      | (with_reducible refine LeO.ite ?_ ?_)
      | (with_reducible refine LeO.bind ?_ (fun _ => ?_))
      | exact ih0 _ _ _ _
      | exact LeO.none _
      | refine LeO.ite ?_ ?_
      | refine LeO.bind ?_ (fun _ => ?_)
set_option maxHeartbeats 8000000 in
set_option maxRecDepth 100000 in
theorem shuttleref10_Pick.calls (k : Nat) (A0 : Option Addr) (c0 : Nat) (l0 : List Int) (a1 : Int) (r : List Int) (w : World) (hr0 : Kd.C (Kd.int .u8) w A0 l0.length l0) (hc0 : l0.length ≤ c0) (h : shuttleref10_Pick.f k l0 a1 = some r) :
    Calls Try.prog 11 #[.slice A0 l0.length c0, .int .i64 a1] w fun e w' => ∃ v0_ : Value, e = .returned (v0_) ∧ Kd.R (Kd.int .u8) 5 w' w.heap.size (fun _ => True) v0_ r ∧ Below w.heap.size w w' := by
  have HR0 := Aside0.mk hr0
  have HC0 := Aside0.mk hc0
  clear hr0 hc0
  have HB := Aside0.mk (Below.refl w.heap.size w)
  have H : (shuttleref10_Pick.l0 k l0 a1 ([] : List Int) 0) = some r := h
  clear h
  have H' := Aside0.mk H
  clear H
  go_enter Try.func11, Try.ntmps11
  go_wp2
  go_loopg [5, 6] k (fun kq v5 v6 w' => ∃ (x5_1 : List Int) (x6_1 : Int), v6 = .int .i64 x6_1 ∧ Aside0 (shuttleref10_Pick.l0 kq l0 a1 x5_1 x6_1 = some r) ∧ Aside0 (kq ≤ k) ∧ Aside0 (Kd.R (Kd.int .u8) 5 w' w.heap.size (fun _ => True) v5 x5_1) ∧ Aside0 (Below w.heap.size w w'))
  case atStart => exact ⟨(([] : List Int)), (0), (by first | rfl | (simp; done) | (simp [*]; done)), H', ⟨Nat.le_refl _⟩, ⟨by first | exact Kd.R_nil _ _ _ _ _ | exact Kd.N_nil _ _ _ _ _ | exact Kd.V_nil _ _ _ _ _ | exact Kd.Q_nil _ _ _ _ _ | exact Kd.S_nil _ _ _ _ _⟩, ⟨by repeat (first | (with_reducible first | exact HB.out | apply below_alloc | apply pw_below_drewN | apply below_drew1) | exact HB.out)⟩⟩
  case round =>
    clear H'
    try clear c1
    try clear p2
    obtain ⟨x5_1, x6_1, rfl, HA, HK1, HO_5, HB⟩ := hrel
    cases gk with
    | zero => exact absurd HA.out (by simp [shuttleref10_Pick.l0])
    | succ k1 =>
      have H := HA.out
      clear HA
      simp only [shuttleref10_Pick.l0] at H
      by_cases c3 : (wrap64 (4 * x6_1)) < (l0.length : Int)
      · rw [if_pos c3] at H
        have c3b0 : decide ((wrap64 (4 * x6_1)) < (l0.length : Int)) = true := decide_eq_true c3
        clear c3
        replace H := Option.bind_eq_some_iff.mp H
        obtain ⟨t144, A40, H⟩ := H
        replace H : (if 0 ≤ (wrap64 ((wrap64 (4 * x6_1)) + t144)) then (if (wrap64 ((wrap64 (4 * x6_1)) + t144)) < (l0.length : Int) then (if x5_1.length < 140737488355328 then (shuttleref10_Pick.l0 k1 l0 a1 (x5_1 ++ [rd l0 (wrap64 ((wrap64 (4 * x6_1)) + t144))]) (wrap64 (x6_1 + 1))) else (none)) else (none)) else (none)) = some r := H
        have A4 := Aside0.mk A40
        clear A40
        obtain ⟨ji5, hji5⟩ : ∃ j_ : Int, (wrap64 ((wrap64 (4 * x6_1)) + t144)) = j_ := ⟨_, rfl⟩
        replace H : (if 0 ≤ (ji5) then (if (ji5) < (l0.length : Int) then (if x5_1.length < 140737488355328 then (shuttleref10_Pick.l0 k1 l0 a1 (x5_1 ++ [rd l0 (ji5)]) (wrap64 (x6_1 + 1))) else (none)) else (none)) else (none)) = some r := by first | (rw [hji5] at H; exact H) | (simp only [hji5] at H ⊢; exact H)
        (try rw [hji5] at A4)
        have hji5w : (IntKind.i64.wrap ((wrap64 (4 * x6_1)) + t144)) = ji5 := (i64_w _).trans hji5
        by_cases c6 : 0 ≤ (ji5)
        · rw [if_pos c6] at H
          have c6b0 : decide (0 ≤ (ji5)) = true := decide_eq_true c6
          clear c6
          by_cases c7 : (ji5) < (l0.length : Int)
          · rw [if_pos c7] at H
            have c7b0 : decide ((ji5) < (l0.length : Int)) = true := decide_eq_true c7
            clear c7
            by_cases c8 : x5_1.length < 140737488355328
            · rw [if_pos c8] at H
              have LMc8 := Aside0.mk c8
              clear c8
              obtain ⟨y146, hy146⟩ : ∃ y_ : List Int, y_ = (x5_1 ++ [rd l0 (ji5)]) := ⟨_, rfl⟩
              replace H : (shuttleref10_Pick.l0 k1 l0 a1 y146 (wrap64 (x6_1 + 1))) = some r := by first | (rw [hy146]; with_reducible exact H) | (have H2_ := (Option.bind_some _ _).symm.trans H; rw [hy146]; with_reducible exact H2_) | (have H2_ := (Option.bind_some _ _).symm.trans H; with_reducible exact H2_) | with_reducible exact H | (rw [hy146]; exact H) | exact H
              have Ny146 := Aside0.mk hy146
              clear hy146
              have H' := Aside0.mk H
              clear H
              go_wp2_with (first | ((with_reducible refine gate_callee (f := 29) rfl ?_); refine goesL_ (some 20) rfl rfl Try.func29 (by kernel_rfl) rfl #[.int .i64 a1, .int .i64 x6_1] rfl (by (try simp only [List.map_toArray, List.map_cons, List.map_nil]); first | done | rfl | (simp only [List.length_drop, List.length_take]; rfl)) ?_; (with_reducible refine (shuttleref10_Stream.calls a1 x6_1 t144 _ A4.out).mono ?_); rintro e w' ⟨rfl, ⟨nd, rfl⟩⟩; refine ⟨_, rfl, ?_⟩; have p145 : 0 ≤ ((ji5) : Int) := of_decide_eq_true (by first | (with_reducible assumption) | assumption); have q145 : (ji5) < (l0.length : Int) := of_decide_eq_true (by first | (with_reducible assumption) | assumption); obtain ⟨ad145, e145, hx145_0⟩ := Kd.at_int HR0.out (ji5) p145 q145; cases e145; replace hx145_0 := (HB.out.cell (World.block_lt_of_cell? w _ hx145_0)).trans hx145_0; replace p145 := eq_true p145; replace q145 := eq_true q145) | ((with_reducible refine gate_builtin (b := .append) (xs := #[.tmp 14, .tmp 24]) rfl ?_); at_builtin; refine Kd.R_append (Kd.int .u8) (w0 := w) w.heap.size rfl (.tmp 14) (.tmp 24) 22 5 (.int .u8 0) 1 rfl Try.underlying22 info5 rfl (by decide) (by omega) u5 x5_1 (rd l0 (ji5)) [.int .u8 (rd l0 (ji5))] (fun _ => True) (fun _ => False) rfl rfl ?aP (fun _ hk => hk.elim) ?aF ?aO ?aB ?aS ?aL ?_; (case aP => exact rfl); (case aB => exact (by repeat (first | (with_reducible first | exact HB.out | apply below_alloc | apply pw_below_drewN | apply below_drew1) | exact HB.out))); (case aF => exact (fun _ _ => trivial)); (case aO => exact (by (with_reducible repeat (first | apply Kd.R_alloc | apply Kd.R_drewN | apply Kd.R_drew)); exact HO_5.out)); (case aS => exact (below_size (by repeat (first | (with_reducible first | exact HB.out | apply below_alloc | apply pw_below_drewN | apply below_drew1) | exact HB.out)))); (case aL => have := LMc8.out; omega); intro v147 w9 ho hb hg hat; rw [← Ny146.out] at ho; have n0_ := Aside0.mk (hb); have n1_ := Aside0.mk (ho); clear HB; clear HO_5; have HB := n0_; have HO148 := n1_; clear n0_ n1_; clear ho hb hg hat))
              go_roundg k1
              case measure => have := HK1.out; omega
              case rel => exact ⟨(y146), (wrap64 (x6_1 + 1)), (by first | rfl | (simp; done) | (simp [*]; done)), H', ⟨by have := HK1.out; omega⟩, ⟨by (with_reducible repeat (first | apply Kd.R_alloc | apply Kd.R_drewN | apply Kd.R_drew)); exact HO148.out⟩, ⟨by repeat (first | (with_reducible first | exact HB.out | apply below_alloc | apply pw_below_drewN | apply below_drew1) | exact HB.out)⟩⟩
            · rw [if_neg c8] at H
              exact absurd H (by simp)
          · rw [if_neg c7] at H
            exact absurd H (by simp)
        · rw [if_neg c6] at H
          exact absurd H (by simp)
      · rw [if_neg c3] at H
        have c3b0 : decide ((wrap64 (4 * x6_1)) < (l0.length : Int)) = false := decide_eq_false c3
        clear c3
        obtain rfl := Option.some.inj H
        go_wp2
        go_ret
        exact ⟨_, by first | rfl | (simp [errW_none, errW_some] <;> rfl) | (simp [*, errW_none, errW_some] <;> rfl), by (with_reducible repeat (first | apply Kd.R_alloc | apply Kd.R_drewN | apply Kd.R_drew)); exact HO_5.out, by repeat (first | (with_reducible first | exact HB.out | apply below_alloc | apply pw_below_drewN | apply below_drew1) | exact HB.out)⟩

end Go.Proofs.Ytmajbcglpcagoaa.X
