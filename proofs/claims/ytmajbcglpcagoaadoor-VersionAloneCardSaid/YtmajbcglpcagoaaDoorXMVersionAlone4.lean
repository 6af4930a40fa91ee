/- Texts of this seat, one behind the other (merge.py): the walks of the functions that the law VersionAlone uses, and plain words on what they come to. No condition. -/
import Derived.Test.YtmajbcglpcagoaaDoorXMVersionAlone3
-- YtmajbcglpcagoaaDoorX46
namespace Go.Proofs.YtmajbcglpcagoaaDoor.X
open Go.RowKit Go.Proofs.YtmajbcglpcagoaaDoorW.PrintWords Go.Proofs.YtmajbcglpcagoaaDoorW.PrintLast Go.Proofs.YtmajbcglpcagoaaDoorW.PrintMore
attribute [local go_sem] max2_int min2_int max_two min_two max_three min_three max_four min_four   -- for this text's walks alone
set_option linter.unusedVariables false
set_option linter.unusedSimpArgs false

/-! ### version_Code: function 21 -/
def version_Code.f (k : Nat) (l0 : List Int) (a1 : Int) : Option (List Int × Int) := (conv_Code.f k l0).bind fun bt540 => (if bt540.2 = 0 then (if a1 < 0 then (some (([] : List Int), 1)) else (if a1 ≥ 4 then (some (([] : List Int), 1)) else ((version_Split.f k bt540.1).bind fun bt544 => (if a1 = 0 then (some (bt544.1, bt544.2.2.2.2)) else (if a1 = 1 then (some (bt544.2.1, bt544.2.2.2.2)) else (if a1 = 2 then (some (bt544.2.2.1, bt544.2.2.2.2)) else (if a1 = 3 then (some (bt544.2.2.2.1, bt544.2.2.2.2)) else (none)))))))) else (some (([] : List Int), bt540.2)))
theorem version_Code.mono : ∀ a0 a1 k, LeO (version_Code.f k a0 a1) (version_Code.f (k + 1) a0 a1) := by
  intro a0 a1 k
  unfold version_Code.f
  repeat' first
      | (with_reducible exact conv_Code.mono _ _)
      | (with_reducible exact version_Split.mono _ _)
      | (with_reducible exact LeO.refl _)
      | (with_reducible exact LeO.none _)
      | (with_reducible refine LeO.ite ?_ ?_)
      | (with_reducible refine LeO.bind ?_ (fun _ => ?_))
      | exact conv_Code.mono _ _
      | exact version_Split.mono _ _
      | exact LeO.none _
      | refine LeO.ite ?_ ?_
      | refine LeO.bind ?_ (fun _ => ?_)
set_option maxHeartbeats 8000000 in
set_option maxRecDepth 100000 in
theorem version_Code.calls (k : Nat) (A0 : Option Addr) (c0 : Nat) (l0 : List Int) (a1 : Int) (r1 : List Int) (r2 : Int) (w : World) (hr0 : Kd.C (Kd.int .u8) w A0 l0.length l0) (hc0 : l0.length ≤ c0) (h : version_Code.f k l0 a1 = some (r1, r2)) (hT_ : TP w := by first | assumption | exact TP_of (by assumption : TP _) (by repeat (first | (with_reducible first | apply below_alloc | apply pw_below_drewN | apply below_drew1 | refine below_set ?_ (Aside0.out (by assumption))) | exact Aside0.out (by assumption) | exact Below.refl _ _))) :
    Calls Tryd.prog 21 #[.slice A0 l0.length c0, .int .i64 a1] w fun e w' => ∃ v0_ : Value, e = .returned (.tuple #[v0_, .int .i64 r2]) ∧ Kd.R (Kd.int .u8) 5 w' w.heap.size (fun _ => True) v0_ r1 ∧ Below w.heap.size w w' := by
  have hu63 := Tryd.underlying63
  have HR0 := Aside0.mk hr0
  have HC0 := Aside0.mk hc0
  clear hr0 hc0
  have HB := Aside0.mk (Below.refl w.heap.size w)
  have H : ((conv_Code.f k l0).bind fun bt540 => (if bt540.2 = 0 then (if a1 < 0 then (some (([] : List Int), 1)) else (if a1 ≥ 4 then (some (([] : List Int), 1)) else ((version_Split.f k bt540.1).bind fun bt544 => (if a1 = 0 then (some (bt544.1, bt544.2.2.2.2)) else (if a1 = 1 then (some (bt544.2.1, bt544.2.2.2.2)) else (if a1 = 2 then (some (bt544.2.2.1, bt544.2.2.2.2)) else (if a1 = 3 then (some (bt544.2.2.2.1, bt544.2.2.2.2)) else (none)))))))) else (some (([] : List Int), bt540.2)))) = some (r1, r2) := h
  clear h
  replace H := Option.bind_eq_some_iff.mp H
  obtain ⟨⟨t540, t541⟩, A30, H⟩ := H
  replace H : (if t541 = 0 then (if a1 < 0 then (some (([] : List Int), 1)) else (if a1 ≥ 4 then (some (([] : List Int), 1)) else ((version_Split.f k t540).bind fun bt544 => (if a1 = 0 then (some (bt544.1, bt544.2.2.2.2)) else (if a1 = 1 then (some (bt544.2.1, bt544.2.2.2.2)) else (if a1 = 2 then (some (bt544.2.2.1, bt544.2.2.2.2)) else (if a1 = 3 then (some (bt544.2.2.2.1, bt544.2.2.2.2)) else (none)))))))) else (some (([] : List Int), t541))) = some (r1, r2) := H
  have A3 := Aside0.mk A30
  clear A30
  by_cases c4 : t541 = 0
  · rw [if_pos c4] at H
    have c4b0 : (t541 == 0) = true := beq_iff_eq.mpr c4
    have c4b1 : (t541 != 0) = false := bne_eq_false_iff_eq.mpr c4
    clear c4
    by_cases c5 : a1 < 0
    · rw [if_pos c5] at H
      have c5b0 : decide (a1 < 0) = true := decide_eq_true c5
      clear c5
      simp only [Option.some.injEq, Prod.mk.injEq] at H
      obtain ⟨rfl, rfl⟩ := H
      go_enter Tryd.func21, Tryd.ntmps21
      go_wp2_with (first | ((with_reducible refine gate_callee (f := 28) rfl ?_); refine goesL_ (some 11) rfl rfl Tryd.func28 (by kernel_rfl) rfl #[.slice A0 l0.length c0] rfl (by (try simp only [List.map_toArray, List.map_cons, List.map_nil]); first | done | rfl | (simp only [List.length_drop, List.length_take]; rfl)) ?_; (with_reducible refine (conv_Code.calls k _ _ l0 t540 t541 _ ?side1 ?side2 A3.out).mono ?_); (case side1 => repeat (first | exact HR0.out | (with_reducible refine Kd.C_alloc ?_ _) | (with_reducible refine Kd.C_drewN ?_ _) | (with_reducible refine Kd.C_drew ?_))); (case side2 => exact HC0.out); rintro e w6 ⟨v542, rfl, ho0, hb⟩; refine ⟨_, rfl, ?_⟩; have n0_ := Aside0.mk (Kd.R_lower ho0 (below_size (by repeat (first | (with_reducible first | exact HB.out | apply below_alloc | apply pw_below_drewN | apply below_drew1) | exact HB.out)))); have n1_ := Aside0.mk (below_step (by repeat (first | (with_reducible first | exact HB.out | apply below_alloc | apply pw_below_drewN | apply below_drew1) | exact HB.out)) hb); clear HB; have HO543 := n0_; have HB := n1_; clear n0_ n1_; (try clear hb); (try clear hb2); (try clear hk); (try clear hi); (try clear ho0)))
      go_ret2
      exact ⟨_, by first | rfl | (simp [errW_none, errW_some] <;> rfl) | (simp [*, errW_none, errW_some] <;> rfl), by first | exact Kd.R_nil _ _ _ _ _ | exact Kd.N_nil _ _ _ _ _ | exact Kd.V_nil _ _ _ _ _ | exact Kd.Q_nil _ _ _ _ _ | exact Kd.S_nil _ _ _ _ _, by repeat (first | (with_reducible first | exact HB.out | apply below_alloc | apply pw_below_drewN | apply below_drew1) | exact HB.out)⟩
    · rw [if_neg c5] at H
      have c5b0 : decide (a1 < 0) = false := decide_eq_false c5
      clear c5
      by_cases c7 : a1 ≥ 4
      · rw [if_pos c7] at H
        have c7b0 : decide (4 ≤ a1) = true := decide_eq_true c7
        clear c7
        simp only [Option.some.injEq, Prod.mk.injEq] at H
        obtain ⟨rfl, rfl⟩ := H
        go_enter Tryd.func21, Tryd.ntmps21
        go_wp2_with (first | ((with_reducible refine gate_callee (f := 28) rfl ?_); refine goesL_ (some 11) rfl rfl Tryd.func28 (by kernel_rfl) rfl #[.slice A0 l0.length c0] rfl (by (try simp only [List.map_toArray, List.map_cons, List.map_nil]); first | done | rfl | (simp only [List.length_drop, List.length_take]; rfl)) ?_; (with_reducible refine (conv_Code.calls k _ _ l0 t540 t541 _ ?side1 ?side2 A3.out).mono ?_); (case side1 => repeat (first | exact HR0.out | (with_reducible refine Kd.C_alloc ?_ _) | (with_reducible refine Kd.C_drewN ?_ _) | (with_reducible refine Kd.C_drew ?_))); (case side2 => exact HC0.out); rintro e w8 ⟨v542, rfl, ho0, hb⟩; refine ⟨_, rfl, ?_⟩; have n0_ := Aside0.mk (Kd.R_lower ho0 (below_size (by repeat (first | (with_reducible first | exact HB.out | apply below_alloc | apply pw_below_drewN | apply below_drew1) | exact HB.out)))); have n1_ := Aside0.mk (below_step (by repeat (first | (with_reducible first | exact HB.out | apply below_alloc | apply pw_below_drewN | apply below_drew1) | exact HB.out)) hb); clear HB; have HO543 := n0_; have HB := n1_; clear n0_ n1_; (try clear hb); (try clear hb2); (try clear hk); (try clear hi); (try clear ho0)))
        go_ret2
        exact ⟨_, by first | rfl | (simp [errW_none, errW_some] <;> rfl) | (simp [*, errW_none, errW_some] <;> rfl), by first | exact Kd.R_nil _ _ _ _ _ | exact Kd.N_nil _ _ _ _ _ | exact Kd.V_nil _ _ _ _ _ | exact Kd.Q_nil _ _ _ _ _ | exact Kd.S_nil _ _ _ _ _, by repeat (first | (with_reducible first | exact HB.out | apply below_alloc | apply pw_below_drewN | apply below_drew1) | exact HB.out)⟩
      · rw [if_neg c7] at H
        have c7b0 : decide (4 ≤ a1) = false := decide_eq_false c7
        clear c7
        replace H := Option.bind_eq_some_iff.mp H
        obtain ⟨⟨t544, t547, t550, t553, t556⟩, A90, H⟩ := H
        replace H : (if a1 = 0 then (some (t544, t556)) else (if a1 = 1 then (some (t547, t556)) else (if a1 = 2 then (some (t550, t556)) else (if a1 = 3 then (some (t553, t556)) else (none))))) = some (r1, r2) := H
        have A9 := Aside0.mk A90
        clear A90
        by_cases c10 : a1 = 0
        · rw [if_pos c10] at H
          subst c10
          simp only [Option.some.injEq, Prod.mk.injEq] at H
          obtain ⟨rfl, rfl⟩ := H
          go_enter Tryd.func21, Tryd.ntmps21
          go_wp2_with (first | ((with_reducible refine gate_callee (f := 28) rfl ?_); refine goesL_ (some 11) rfl rfl Tryd.func28 (by kernel_rfl) rfl #[.slice A0 l0.length c0] rfl (by (try simp only [List.map_toArray, List.map_cons, List.map_nil]); first | done | rfl | (simp only [List.length_drop, List.length_take]; rfl)) ?_; (with_reducible refine (conv_Code.calls k _ _ l0 t540 t541 _ ?side1 ?side2 A3.out).mono ?_); (case side1 => repeat (first | exact HR0.out | (with_reducible refine Kd.C_alloc ?_ _) | (with_reducible refine Kd.C_drewN ?_ _) | (with_reducible refine Kd.C_drew ?_))); (case side2 => exact HC0.out); rintro e w11 ⟨v542, rfl, ho0, hb⟩; refine ⟨_, rfl, ?_⟩; have n0_ := Aside0.mk (Kd.R_lower ho0 (below_size (by repeat (first | (with_reducible first | exact HB.out | apply below_alloc | apply pw_below_drewN | apply below_drew1) | exact HB.out)))); have n1_ := Aside0.mk (below_step (by repeat (first | (with_reducible first | exact HB.out | apply below_alloc | apply pw_below_drewN | apply below_drew1) | exact HB.out)) hb); clear HB; have HO543 := n0_; have HB := n1_; clear n0_ n1_; (try clear hb); (try clear hb2); (try clear hk); (try clear hi); (try clear ho0); obtain ⟨Ao12, co12, eo12⟩ := Kd.R_slice HO543.out; subst eo12) | ((with_reducible refine gate_callee (f := 36) rfl ?_); refine goesL_ (some 25) rfl rfl Tryd.func36 (by kernel_rfl) rfl #[.slice Ao12 t540.length co12] rfl (by (try simp only [List.map_toArray, List.map_cons, List.map_nil]); first | done | rfl | (simp only [List.length_drop, List.length_take]; rfl)) ?_; (with_reducible refine (version_Split.calls k _ _ t540 t544 t547 t550 t553 t556 _ ?side1 ?side2 A9.out).mono ?_); (case side1 => repeat (first | exact (Kd.R_reads' HO543.out).2.2 | (with_reducible refine Kd.C_alloc ?_ _) | (with_reducible refine Kd.C_drewN ?_ _) | (with_reducible refine Kd.C_drew ?_))); (case side2 => exact (Kd.R_reads' HO543.out).2.1); rintro e w13 ⟨v545, v548, v551, v554, rfl, ho0, ho1, ho2, ho3, hb⟩; refine ⟨_, rfl, ?_⟩; have n0_ := Aside0.mk (Kd.R_mono (Kd.R_told (Kd.R_told (Kd.R_told (Kd.R_told (Kd.R_old (by (with_reducible repeat (first | apply Kd.R_alloc | apply Kd.R_drewN | apply Kd.R_drew)); exact HO543.out) hb) (Kd.R_base ho0)) (Kd.R_base ho1)) (Kd.R_base ho2)) (Kd.R_base ho3)) (fun _ h_ => h_.1)); have n1_ := Aside0.mk (Kd.R_lower (Kd.R_new' ho0 (Kd.R_lt (by (with_reducible repeat (first | apply Kd.R_alloc | apply Kd.R_drewN | apply Kd.R_drew)); exact HO543.out))) (below_size (by repeat (first | (with_reducible first | exact HB.out | apply below_alloc | apply pw_below_drewN | apply below_drew1) | exact HB.out)))); have n2_ := Aside0.mk (Kd.R_lower (Kd.R_new' ho1 (Kd.R_lt (by (with_reducible repeat (first | apply Kd.R_alloc | apply Kd.R_drewN | apply Kd.R_drew)); exact HO543.out))) (below_size (by repeat (first | (with_reducible first | exact HB.out | apply below_alloc | apply pw_below_drewN | apply below_drew1) | exact HB.out)))); have n3_ := Aside0.mk (Kd.R_lower (Kd.R_new' ho2 (Kd.R_lt (by (with_reducible repeat (first | apply Kd.R_alloc | apply Kd.R_drewN | apply Kd.R_drew)); exact HO543.out))) (below_size (by repeat (first | (with_reducible first | exact HB.out | apply below_alloc | apply pw_below_drewN | apply below_drew1) | exact HB.out)))); have n4_ := Aside0.mk (Kd.R_lower (Kd.R_new' ho3 (Kd.R_lt (by (with_reducible repeat (first | apply Kd.R_alloc | apply Kd.R_drewN | apply Kd.R_drew)); exact HO543.out))) (below_size (by repeat (first | (with_reducible first | exact HB.out | apply below_alloc | apply pw_below_drewN | apply below_drew1) | exact HB.out)))); have n5_ := Aside0.mk (below_step (by repeat (first | (with_reducible first | exact HB.out | apply below_alloc | apply pw_below_drewN | apply below_drew1) | exact HB.out)) hb); clear HO543; clear HB; have HO543 := n0_; have HO546 := n1_; have HO549 := n2_; have HO552 := n3_; have HO555 := n4_; have HB := n5_; clear n0_ n1_ n2_ n3_ n4_ n5_; (try clear hb); (try clear hb2); (try clear hk); (try clear hi); (try clear ho0); (try clear ho1); (try clear ho2); (try clear ho3)) | ((with_reducible refine gate_dst (N := 8) rfl ?_); refine box_event ?hg (N := 8) ?hd (cs := #[.slice none 0 0, .slice none 0 0, .slice none 0 0, .slice none 0 0]) (t := 63) ?hr ?_; (case hd => rfl); (case hg => rfl); (case hr => first | (go_simp; done) | (go_simp; rfl)); intro gb557 hg w14 hbox hb; have n0_ := Aside0.mk (Kd.R_below (by (with_reducible repeat (first | apply Kd.R_alloc | apply Kd.R_drewN | apply Kd.R_drew)); exact HO543.out) hb); have n1_ := Aside0.mk (Kd.R_below (by (with_reducible repeat (first | apply Kd.R_alloc | apply Kd.R_drewN | apply Kd.R_drew)); exact HO546.out) hb); have n2_ := Aside0.mk (Kd.R_below (by (with_reducible repeat (first | apply Kd.R_alloc | apply Kd.R_drewN | apply Kd.R_drew)); exact HO549.out) hb); have n3_ := Aside0.mk (Kd.R_below (by (with_reducible repeat (first | apply Kd.R_alloc | apply Kd.R_drewN | apply Kd.R_drew)); exact HO552.out) hb); have n4_ := Aside0.mk (Kd.R_below (by (with_reducible repeat (first | apply Kd.R_alloc | apply Kd.R_drewN | apply Kd.R_drew)); exact HO555.out) hb); have n5_ := Aside0.mk (below_step (by repeat (first | (with_reducible first | exact HB.out | apply below_alloc | apply pw_below_drewN | apply below_drew1) | exact HB.out)) hb); have n6_ := Aside0.mk (hbox); have n7_ := Aside0.mk ((by rw [hg]; exact (below_size (by repeat (first | (with_reducible first | exact HB.out | apply below_alloc | apply pw_below_drewN | apply below_drew1) | exact HB.out))) : w.heap.size ≤ gb557)); have n8_ := Aside0.mk ((by rw [hg]; exact (below_size (by repeat (first | (with_reducible first | exact HB.out | apply below_alloc | apply pw_below_drewN | apply below_drew1) | exact HB.out))) : w.heap.size ≤ gb557)); clear HO543; clear HO546; clear HO549; clear HO552; clear HO555; clear HB; have HO543 := n0_; have HO546 := n1_; have HO549 := n2_; have HO552 := n3_; have HO555 := n4_; have HB := n5_; have BK557 := n6_; have GW557 := n7_; have GE557 := n8_; clear n0_ n1_ n2_ n3_ n4_ n5_ n6_ n7_ n8_; clear hb hbox hg; obtain ⟨Ao15, co15, eo15⟩ := Kd.R_slice HO546.out; subst eo15; have hcz16_0 : w14.cell? ⟨gb557, 0, none⟩ = some (.slice none 0 0) := (blk_cell BK557.out 0).trans rfl; have hcz16_1 : w14.cell? ⟨gb557, 1, none⟩ = some (.slice none 0 0) := (blk_cell BK557.out 1).trans rfl; have hcz16_2 : w14.cell? ⟨gb557, 2, none⟩ = some (.slice none 0 0) := (blk_cell BK557.out 2).trans rfl; have hcz16_3 : w14.cell? ⟨gb557, 3, none⟩ = some (.slice none 0 0) := (blk_cell BK557.out 3).trans rfl; have hfz16_0 := blk_frozen BK557.out 0; have hfz16_1 := blk_frozen BK557.out 1; have hfz16_2 := blk_frozen BK557.out 2; have hfz16_3 := blk_frozen BK557.out 3; obtain ⟨Ao17, co17, eo17⟩ := Kd.R_slice HO549.out; subst eo17; obtain ⟨Ao18, co18, eo18⟩ := Kd.R_slice HO552.out; subst eo18; obtain ⟨Ao19, co19, eo19⟩ := Kd.R_slice HO555.out; subst eo19))
          go_ret2
          exact ⟨_, by first | rfl | (simp [errW_none, errW_some] <;> rfl) | (simp [*, errW_none, errW_some] <;> rfl), by (with_reducible repeat (first | apply Kd.R_alloc | apply Kd.R_drewN | apply Kd.R_drew)); exact Kd.R_mono (Kd.R_far (p := ⟨gb557, 3, none⟩) (Kd.R_far (p := ⟨gb557, 2, none⟩) (Kd.R_far (p := ⟨gb557, 1, none⟩) (Kd.R_far (p := ⟨gb557, 0, none⟩) (Kd.R_types HO546.out BK557.out (by decide)) (fun _ hk => hk.2) (.slice Ao15 t544.length co15)) (fun _ hk => hk.2) (.slice Ao17 t547.length co17)) (fun _ hk => hk.2) (.slice Ao18 t550.length co18)) (fun _ hk => hk.2) (.slice Ao19 t553.length co19)) (fun _ hk => trivial), by repeat (first | (with_reducible first | exact HB.out | apply below_alloc | apply pw_below_drewN | apply below_drew1 | refine below_set ?_ GE557.out) | exact HB.out)⟩
        · rw [if_neg c10] at H
          clear c10
          by_cases c20 : a1 = 1
          · rw [if_pos c20] at H
            subst c20
            simp only [Option.some.injEq, Prod.mk.injEq] at H
            obtain ⟨rfl, rfl⟩ := H
            go_enter Tryd.func21, Tryd.ntmps21
            go_wp2_with (first | ((with_reducible refine gate_callee (f := 28) rfl ?_); refine goesL_ (some 11) rfl rfl Tryd.func28 (by kernel_rfl) rfl #[.slice A0 l0.length c0] rfl (by (try simp only [List.map_toArray, List.map_cons, List.map_nil]); first | done | rfl | (simp only [List.length_drop, List.length_take]; rfl)) ?_; (with_reducible refine (conv_Code.calls k _ _ l0 t540 t541 _ ?side1 ?side2 A3.out).mono ?_); (case side1 => repeat (first | exact HR0.out | (with_reducible refine Kd.C_alloc ?_ _) | (with_reducible refine Kd.C_drewN ?_ _) | (with_reducible refine Kd.C_drew ?_))); (case side2 => exact HC0.out); rintro e w21 ⟨v542, rfl, ho0, hb⟩; refine ⟨_, rfl, ?_⟩; have n0_ := Aside0.mk (Kd.R_lower ho0 (below_size (by repeat (first | (with_reducible first | exact HB.out | apply below_alloc | apply pw_below_drewN | apply below_drew1) | exact HB.out)))); have n1_ := Aside0.mk (below_step (by repeat (first | (with_reducible first | exact HB.out | apply below_alloc | apply pw_below_drewN | apply below_drew1) | exact HB.out)) hb); clear HB; have HO543 := n0_; have HB := n1_; clear n0_ n1_; (try clear hb); (try clear hb2); (try clear hk); (try clear hi); (try clear ho0); obtain ⟨Ao22, co22, eo22⟩ := Kd.R_slice HO543.out; subst eo22) | ((with_reducible refine gate_callee (f := 36) rfl ?_); refine goesL_ (some 25) rfl rfl Tryd.func36 (by kernel_rfl) rfl #[.slice Ao22 t540.length co22] rfl (by (try simp only [List.map_toArray, List.map_cons, List.map_nil]); first | done | rfl | (simp only [List.length_drop, List.length_take]; rfl)) ?_; (with_reducible refine (version_Split.calls k _ _ t540 t544 t547 t550 t553 t556 _ ?side1 ?side2 A9.out).mono ?_); (case side1 => repeat (first | exact (Kd.R_reads' HO543.out).2.2 | (with_reducible refine Kd.C_alloc ?_ _) | (with_reducible refine Kd.C_drewN ?_ _) | (with_reducible refine Kd.C_drew ?_))); (case side2 => exact (Kd.R_reads' HO543.out).2.1); rintro e w23 ⟨v545, v548, v551, v554, rfl, ho0, ho1, ho2, ho3, hb⟩; refine ⟨_, rfl, ?_⟩; have n0_ := Aside0.mk (Kd.R_mono (Kd.R_told (Kd.R_told (Kd.R_told (Kd.R_told (Kd.R_old (by (with_reducible repeat (first | apply Kd.R_alloc | apply Kd.R_drewN | apply Kd.R_drew)); exact HO543.out) hb) (Kd.R_base ho0)) (Kd.R_base ho1)) (Kd.R_base ho2)) (Kd.R_base ho3)) (fun _ h_ => h_.1)); have n1_ := Aside0.mk (Kd.R_lower (Kd.R_new' ho0 (Kd.R_lt (by (with_reducible repeat (first | apply Kd.R_alloc | apply Kd.R_drewN | apply Kd.R_drew)); exact HO543.out))) (below_size (by repeat (first | (with_reducible first | exact HB.out | apply below_alloc | apply pw_below_drewN | apply below_drew1) | exact HB.out)))); have n2_ := Aside0.mk (Kd.R_lower (Kd.R_new' ho1 (Kd.R_lt (by (with_reducible repeat (first | apply Kd.R_alloc | apply Kd.R_drewN | apply Kd.R_drew)); exact HO543.out))) (below_size (by repeat (first | (with_reducible first | exact HB.out | apply below_alloc | apply pw_below_drewN | apply below_drew1) | exact HB.out)))); have n3_ := Aside0.mk (Kd.R_lower (Kd.R_new' ho2 (Kd.R_lt (by (with_reducible repeat (first | apply Kd.R_alloc | apply Kd.R_drewN | apply Kd.R_drew)); exact HO543.out))) (below_size (by repeat (first | (with_reducible first | exact HB.out | apply below_alloc | apply pw_below_drewN | apply below_drew1) | exact HB.out)))); have n4_ := Aside0.mk (Kd.R_lower (Kd.R_new' ho3 (Kd.R_lt (by (with_reducible repeat (first | apply Kd.R_alloc | apply Kd.R_drewN | apply Kd.R_drew)); exact HO543.out))) (below_size (by repeat (first | (with_reducible first | exact HB.out | apply below_alloc | apply pw_below_drewN | apply below_drew1) | exact HB.out)))); have n5_ := Aside0.mk (below_step (by repeat (first | (with_reducible first | exact HB.out | apply below_alloc | apply pw_below_drewN | apply below_drew1) | exact HB.out)) hb); clear HO543; clear HB; have HO543 := n0_; have HO546 := n1_; have HO549 := n2_; have HO552 := n3_; have HO555 := n4_; have HB := n5_; clear n0_ n1_ n2_ n3_ n4_ n5_; (try clear hb); (try clear hb2); (try clear hk); (try clear hi); (try clear ho0); (try clear ho1); (try clear ho2); (try clear ho3)) | ((with_reducible refine gate_dst (N := 8) rfl ?_); refine box_event ?hg (N := 8) ?hd (cs := #[.slice none 0 0, .slice none 0 0, .slice none 0 0, .slice none 0 0]) (t := 63) ?hr ?_; (case hd => rfl); (case hg => rfl); (case hr => first | (go_simp; done) | (go_simp; rfl)); intro gb557 hg w24 hbox hb; have n0_ := Aside0.mk (Kd.R_below (by (with_reducible repeat (first | apply Kd.R_alloc | apply Kd.R_drewN | apply Kd.R_drew)); exact HO543.out) hb); have n1_ := Aside0.mk (Kd.R_below (by (with_reducible repeat (first | apply Kd.R_alloc | apply Kd.R_drewN | apply Kd.R_drew)); exact HO546.out) hb); have n2_ := Aside0.mk (Kd.R_below (by (with_reducible repeat (first | apply Kd.R_alloc | apply Kd.R_drewN | apply Kd.R_drew)); exact HO549.out) hb); have n3_ := Aside0.mk (Kd.R_below (by (with_reducible repeat (first | apply Kd.R_alloc | apply Kd.R_drewN | apply Kd.R_drew)); exact HO552.out) hb); have n4_ := Aside0.mk (Kd.R_below (by (with_reducible repeat (first | apply Kd.R_alloc | apply Kd.R_drewN | apply Kd.R_drew)); exact HO555.out) hb); have n5_ := Aside0.mk (below_step (by repeat (first | (with_reducible first | exact HB.out | apply below_alloc | apply pw_below_drewN | apply below_drew1) | exact HB.out)) hb); have n6_ := Aside0.mk (hbox); have n7_ := Aside0.mk ((by rw [hg]; exact (below_size (by repeat (first | (with_reducible first | exact HB.out | apply below_alloc | apply pw_below_drewN | apply below_drew1) | exact HB.out))) : w.heap.size ≤ gb557)); have n8_ := Aside0.mk ((by rw [hg]; exact (below_size (by repeat (first | (with_reducible first | exact HB.out | apply below_alloc | apply pw_below_drewN | apply below_drew1) | exact HB.out))) : w.heap.size ≤ gb557)); clear HO543; clear HO546; clear HO549; clear HO552; clear HO555; clear HB; have HO543 := n0_; have HO546 := n1_; have HO549 := n2_; have HO552 := n3_; have HO555 := n4_; have HB := n5_; have BK557 := n6_; have GW557 := n7_; have GE557 := n8_; clear n0_ n1_ n2_ n3_ n4_ n5_ n6_ n7_ n8_; clear hb hbox hg; obtain ⟨Ao25, co25, eo25⟩ := Kd.R_slice HO546.out; subst eo25; have hcz26_0 : w24.cell? ⟨gb557, 0, none⟩ = some (.slice none 0 0) := (blk_cell BK557.out 0).trans rfl; have hcz26_1 : w24.cell? ⟨gb557, 1, none⟩ = some (.slice none 0 0) := (blk_cell BK557.out 1).trans rfl; have hcz26_2 : w24.cell? ⟨gb557, 2, none⟩ = some (.slice none 0 0) := (blk_cell BK557.out 2).trans rfl; have hcz26_3 : w24.cell? ⟨gb557, 3, none⟩ = some (.slice none 0 0) := (blk_cell BK557.out 3).trans rfl; have hfz26_0 := blk_frozen BK557.out 0; have hfz26_1 := blk_frozen BK557.out 1; have hfz26_2 := blk_frozen BK557.out 2; have hfz26_3 := blk_frozen BK557.out 3; obtain ⟨Ao27, co27, eo27⟩ := Kd.R_slice HO549.out; subst eo27; obtain ⟨Ao28, co28, eo28⟩ := Kd.R_slice HO552.out; subst eo28; obtain ⟨Ao29, co29, eo29⟩ := Kd.R_slice HO555.out; subst eo29))
            go_ret2
            exact ⟨_, by first | rfl | (simp [errW_none, errW_some] <;> rfl) | (simp [*, errW_none, errW_some] <;> rfl), by (with_reducible repeat (first | apply Kd.R_alloc | apply Kd.R_drewN | apply Kd.R_drew)); exact Kd.R_mono (Kd.R_far (p := ⟨gb557, 3, none⟩) (Kd.R_far (p := ⟨gb557, 2, none⟩) (Kd.R_far (p := ⟨gb557, 1, none⟩) (Kd.R_far (p := ⟨gb557, 0, none⟩) (Kd.R_types HO549.out BK557.out (by decide)) (fun _ hk => hk.2) (.slice Ao25 t544.length co25)) (fun _ hk => hk.2) (.slice Ao27 t547.length co27)) (fun _ hk => hk.2) (.slice Ao28 t550.length co28)) (fun _ hk => hk.2) (.slice Ao29 t553.length co29)) (fun _ hk => trivial), by repeat (first | (with_reducible first | exact HB.out | apply below_alloc | apply pw_below_drewN | apply below_drew1 | refine below_set ?_ GE557.out) | exact HB.out)⟩
          · rw [if_neg c20] at H
            clear c20
            by_cases c30 : a1 = 2
            · rw [if_pos c30] at H
              subst c30
              simp only [Option.some.injEq, Prod.mk.injEq] at H
              obtain ⟨rfl, rfl⟩ := H
              go_enter Tryd.func21, Tryd.ntmps21
              go_wp2_with (first | ((with_reducible refine gate_callee (f := 28) rfl ?_); refine goesL_ (some 11) rfl rfl Tryd.func28 (by kernel_rfl) rfl #[.slice A0 l0.length c0] rfl (by (try simp only [List.map_toArray, List.map_cons, List.map_nil]); first | done | rfl | (simp only [List.length_drop, List.length_take]; rfl)) ?_; (with_reducible refine (conv_Code.calls k _ _ l0 t540 t541 _ ?side1 ?side2 A3.out).mono ?_); (case side1 => repeat (first | exact HR0.out | (with_reducible refine Kd.C_alloc ?_ _) | (with_reducible refine Kd.C_drewN ?_ _) | (with_reducible refine Kd.C_drew ?_))); (case side2 => exact HC0.out); rintro e w31 ⟨v542, rfl, ho0, hb⟩; refine ⟨_, rfl, ?_⟩; have n0_ := Aside0.mk (Kd.R_lower ho0 (below_size (by repeat (first | (with_reducible first | exact HB.out | apply below_alloc | apply pw_below_drewN | apply below_drew1) | exact HB.out)))); have n1_ := Aside0.mk (below_step (by repeat (first | (with_reducible first | exact HB.out | apply below_alloc | apply pw_below_drewN | apply below_drew1) | exact HB.out)) hb); clear HB; have HO543 := n0_; have HB := n1_; clear n0_ n1_; (try clear hb); (try clear hb2); (try clear hk); (try clear hi); (try clear ho0); obtain ⟨Ao32, co32, eo32⟩ := Kd.R_slice HO543.out; subst eo32) | ((with_reducible refine gate_callee (f := 36) rfl ?_); refine goesL_ (some 25) rfl rfl Tryd.func36 (by kernel_rfl) rfl #[.slice Ao32 t540.length co32] rfl (by (try simp only [List.map_toArray, List.map_cons, List.map_nil]); first | done | rfl | (simp only [List.length_drop, List.length_take]; rfl)) ?_; (with_reducible refine (version_Split.calls k _ _ t540 t544 t547 t550 t553 t556 _ ?side1 ?side2 A9.out).mono ?_); (case side1 => repeat (first | exact (Kd.R_reads' HO543.out).2.2 | (with_reducible refine Kd.C_alloc ?_ _) | (with_reducible refine Kd.C_drewN ?_ _) | (with_reducible refine Kd.C_drew ?_))); (case side2 => exact (Kd.R_reads' HO543.out).2.1); rintro e w33 ⟨v545, v548, v551, v554, rfl, ho0, ho1, ho2, ho3, hb⟩; refine ⟨_, rfl, ?_⟩; have n0_ := Aside0.mk (Kd.R_mono (Kd.R_told (Kd.R_told (Kd.R_told (Kd.R_told (Kd.R_old (by (with_reducible repeat (first | apply Kd.R_alloc | apply Kd.R_drewN | apply Kd.R_drew)); exact HO543.out) hb) (Kd.R_base ho0)) (Kd.R_base ho1)) (Kd.R_base ho2)) (Kd.R_base ho3)) (fun _ h_ => h_.1)); have n1_ := Aside0.mk (Kd.R_lower (Kd.R_new' ho0 (Kd.R_lt (by (with_reducible repeat (first | apply Kd.R_alloc | apply Kd.R_drewN | apply Kd.R_drew)); exact HO543.out))) (below_size (by repeat (first | (with_reducible first | exact HB.out | apply below_alloc | apply pw_below_drewN | apply below_drew1) | exact HB.out)))); have n2_ := Aside0.mk (Kd.R_lower (Kd.R_new' ho1 (Kd.R_lt (by (with_reducible repeat (first | apply Kd.R_alloc | apply Kd.R_drewN | apply Kd.R_drew)); exact HO543.out))) (below_size (by repeat (first | (with_reducible first | exact HB.out | apply below_alloc | apply pw_below_drewN | apply below_drew1) | exact HB.out)))); have n3_ := Aside0.mk (Kd.R_lower (Kd.R_new' ho2 (Kd.R_lt (by (with_reducible repeat (first | apply Kd.R_alloc | apply Kd.R_drewN | apply Kd.R_drew)); exact HO543.out))) (below_size (by repeat (first | (with_reducible first | exact HB.out | apply below_alloc | apply pw_below_drewN | apply below_drew1) | exact HB.out)))); have n4_ := Aside0.mk (Kd.R_lower (Kd.R_new' ho3 (Kd.R_lt (by (with_reducible repeat (first | apply Kd.R_alloc | apply Kd.R_drewN | apply Kd.R_drew)); exact HO543.out))) (below_size (by repeat (first | (with_reducible first | exact HB.out | apply below_alloc | apply pw_below_drewN | apply below_drew1) | exact HB.out)))); have n5_ := Aside0.mk (below_step (by repeat (first | (with_reducible first | exact HB.out | apply below_alloc | apply pw_below_drewN | apply below_drew1) | exact HB.out)) hb); clear HO543; clear HB; have HO543 := n0_; have HO546 := n1_; have HO549 := n2_; have HO552 := n3_; have HO555 := n4_; have HB := n5_; clear n0_ n1_ n2_ n3_ n4_ n5_; (try clear hb); (try clear hb2); (try clear hk); (try clear hi); (try clear ho0); (try clear ho1); (try clear ho2); (try clear ho3)) | ((with_reducible refine gate_dst (N := 8) rfl ?_); refine box_event ?hg (N := 8) ?hd (cs := #[.slice none 0 0, .slice none 0 0, .slice none 0 0, .slice none 0 0]) (t := 63) ?hr ?_; (case hd => rfl); (case hg => rfl); (case hr => first | (go_simp; done) | (go_simp; rfl)); intro gb557 hg w34 hbox hb; have n0_ := Aside0.mk (Kd.R_below (by (with_reducible repeat (first | apply Kd.R_alloc | apply Kd.R_drewN | apply Kd.R_drew)); exact HO543.out) hb); have n1_ := Aside0.mk (Kd.R_below (by (with_reducible repeat (first | apply Kd.R_alloc | apply Kd.R_drewN | apply Kd.R_drew)); exact HO546.out) hb); have n2_ := Aside0.mk (Kd.R_below (by (with_reducible repeat (first | apply Kd.R_alloc | apply Kd.R_drewN | apply Kd.R_drew)); exact HO549.out) hb); have n3_ := Aside0.mk (Kd.R_below (by (with_reducible repeat (first | apply Kd.R_alloc | apply Kd.R_drewN | apply Kd.R_drew)); exact HO552.out) hb); have n4_ := Aside0.mk (Kd.R_below (by (with_reducible repeat (first | apply Kd.R_alloc | apply Kd.R_drewN | apply Kd.R_drew)); exact HO555.out) hb); have n5_ := Aside0.mk (below_step (by repeat (first | (with_reducible first | exact HB.out | apply below_alloc | apply pw_below_drewN | apply below_drew1) | exact HB.out)) hb); have n6_ := Aside0.mk (hbox); have n7_ := Aside0.mk ((by rw [hg]; exact (below_size (by repeat (first | (with_reducible first | exact HB.out | apply below_alloc | apply pw_below_drewN | apply below_drew1) | exact HB.out))) : w.heap.size ≤ gb557)); have n8_ := Aside0.mk ((by rw [hg]; exact (below_size (by repeat (first | (with_reducible first | exact HB.out | apply below_alloc | apply pw_below_drewN | apply below_drew1) | exact HB.out))) : w.heap.size ≤ gb557)); clear HO543; clear HO546; clear HO549; clear HO552; clear HO555; clear HB; have HO543 := n0_; have HO546 := n1_; have HO549 := n2_; have HO552 := n3_; have HO555 := n4_; have HB := n5_; have BK557 := n6_; have GW557 := n7_; have GE557 := n8_; clear n0_ n1_ n2_ n3_ n4_ n5_ n6_ n7_ n8_; clear hb hbox hg; obtain ⟨Ao35, co35, eo35⟩ := Kd.R_slice HO546.out; subst eo35; have hcz36_0 : w34.cell? ⟨gb557, 0, none⟩ = some (.slice none 0 0) := (blk_cell BK557.out 0).trans rfl; have hcz36_1 : w34.cell? ⟨gb557, 1, none⟩ = some (.slice none 0 0) := (blk_cell BK557.out 1).trans rfl; have hcz36_2 : w34.cell? ⟨gb557, 2, none⟩ = some (.slice none 0 0) := (blk_cell BK557.out 2).trans rfl; have hcz36_3 : w34.cell? ⟨gb557, 3, none⟩ = some (.slice none 0 0) := (blk_cell BK557.out 3).trans rfl; have hfz36_0 := blk_frozen BK557.out 0; have hfz36_1 := blk_frozen BK557.out 1; have hfz36_2 := blk_frozen BK557.out 2; have hfz36_3 := blk_frozen BK557.out 3; obtain ⟨Ao37, co37, eo37⟩ := Kd.R_slice HO549.out; subst eo37; obtain ⟨Ao38, co38, eo38⟩ := Kd.R_slice HO552.out; subst eo38; obtain ⟨Ao39, co39, eo39⟩ := Kd.R_slice HO555.out; subst eo39))
              go_ret2
              exact ⟨_, by first | rfl | (simp [errW_none, errW_some] <;> rfl) | (simp [*, errW_none, errW_some] <;> rfl), by (with_reducible repeat (first | apply Kd.R_alloc | apply Kd.R_drewN | apply Kd.R_drew)); exact Kd.R_mono (Kd.R_far (p := ⟨gb557, 3, none⟩) (Kd.R_far (p := ⟨gb557, 2, none⟩) (Kd.R_far (p := ⟨gb557, 1, none⟩) (Kd.R_far (p := ⟨gb557, 0, none⟩) (Kd.R_types HO552.out BK557.out (by decide)) (fun _ hk => hk.2) (.slice Ao35 t544.length co35)) (fun _ hk => hk.2) (.slice Ao37 t547.length co37)) (fun _ hk => hk.2) (.slice Ao38 t550.length co38)) (fun _ hk => hk.2) (.slice Ao39 t553.length co39)) (fun _ hk => trivial), by repeat (first | (with_reducible first | exact HB.out | apply below_alloc | apply pw_below_drewN | apply below_drew1 | refine below_set ?_ GE557.out) | exact HB.out)⟩
            · rw [if_neg c30] at H
              clear c30
              by_cases c40 : a1 = 3
              · rw [if_pos c40] at H
                subst c40
                simp only [Option.some.injEq, Prod.mk.injEq] at H
                obtain ⟨rfl, rfl⟩ := H
                go_enter Tryd.func21, Tryd.ntmps21
                go_wp2_with (first | ((with_reducible refine gate_callee (f := 28) rfl ?_); refine goesL_ (some 11) rfl rfl Tryd.func28 (by kernel_rfl) rfl #[.slice A0 l0.length c0] rfl (by (try simp only [List.map_toArray, List.map_cons, List.map_nil]); first | done | rfl | (simp only [List.length_drop, List.length_take]; rfl)) ?_; (with_reducible refine (conv_Code.calls k _ _ l0 t540 t541 _ ?side1 ?side2 A3.out).mono ?_); (case side1 => repeat (first | exact HR0.out | (with_reducible refine Kd.C_alloc ?_ _) | (with_reducible refine Kd.C_drewN ?_ _) | (with_reducible refine Kd.C_drew ?_))); (case side2 => exact HC0.out); rintro e w41 ⟨v542, rfl, ho0, hb⟩; refine ⟨_, rfl, ?_⟩; have n0_ := Aside0.mk (Kd.R_lower ho0 (below_size (by repeat (first | (with_reducible first | exact HB.out | apply below_alloc | apply pw_below_drewN | apply below_drew1) | exact HB.out)))); have n1_ := Aside0.mk (below_step (by repeat (first | (with_reducible first | exact HB.out | apply below_alloc | apply pw_below_drewN | apply below_drew1) | exact HB.out)) hb); clear HB; have HO543 := n0_; have HB := n1_; clear n0_ n1_; (try clear hb); (try clear hb2); (try clear hk); (try clear hi); (try clear ho0); obtain ⟨Ao42, co42, eo42⟩ := Kd.R_slice HO543.out; subst eo42) | ((with_reducible refine gate_callee (f := 36) rfl ?_); refine goesL_ (some 25) rfl rfl Tryd.func36 (by kernel_rfl) rfl #[.slice Ao42 t540.length co42] rfl (by (try simp only [List.map_toArray, List.map_cons, List.map_nil]); first | done | rfl | (simp only [List.length_drop, List.length_take]; rfl)) ?_; (with_reducible refine (version_Split.calls k _ _ t540 t544 t547 t550 t553 t556 _ ?side1 ?side2 A9.out).mono ?_); (case side1 => repeat (first | exact (Kd.R_reads' HO543.out).2.2 | (with_reducible refine Kd.C_alloc ?_ _) | (with_reducible refine Kd.C_drewN ?_ _) | (with_reducible refine Kd.C_drew ?_))); (case side2 => exact (Kd.R_reads' HO543.out).2.1); rintro e w43 ⟨v545, v548, v551, v554, rfl, ho0, ho1, ho2, ho3, hb⟩; refine ⟨_, rfl, ?_⟩; have n0_ := Aside0.mk (Kd.R_mono (Kd.R_told (Kd.R_told (Kd.R_told (Kd.R_told (Kd.R_old (by (with_reducible repeat (first | apply Kd.R_alloc | apply Kd.R_drewN | apply Kd.R_drew)); exact HO543.out) hb) (Kd.R_base ho0)) (Kd.R_base ho1)) (Kd.R_base ho2)) (Kd.R_base ho3)) (fun _ h_ => h_.1)); have n1_ := Aside0.mk (Kd.R_lower (Kd.R_new' ho0 (Kd.R_lt (by (with_reducible repeat (first | apply Kd.R_alloc | apply Kd.R_drewN | apply Kd.R_drew)); exact HO543.out))) (below_size (by repeat (first | (with_reducible first | exact HB.out | apply below_alloc | apply pw_below_drewN | apply below_drew1) | exact HB.out)))); have n2_ := Aside0.mk (Kd.R_lower (Kd.R_new' ho1 (Kd.R_lt (by (with_reducible repeat (first | apply Kd.R_alloc | apply Kd.R_drewN | apply Kd.R_drew)); exact HO543.out))) (below_size (by repeat (first | (with_reducible first | exact HB.out | apply below_alloc | apply pw_below_drewN | apply below_drew1) | exact HB.out)))); have n3_ := Aside0.mk (Kd.R_lower (Kd.R_new' ho2 (Kd.R_lt (by (with_reducible repeat (first | apply Kd.R_alloc | apply Kd.R_drewN | apply Kd.R_drew)); exact HO543.out))) (below_size (by repeat (first | (with_reducible first | exact HB.out | apply below_alloc | apply pw_below_drewN | apply below_drew1) | exact HB.out)))); have n4_ := Aside0.mk (Kd.R_lower (Kd.R_new' ho3 (Kd.R_lt (by (with_reducible repeat (first | apply Kd.R_alloc | apply Kd.R_drewN | apply Kd.R_drew)); exact HO543.out))) (below_size (by repeat (first | (with_reducible first | exact HB.out | apply below_alloc | apply pw_below_drewN | apply below_drew1) | exact HB.out)))); have n5_ := Aside0.mk (below_step (by repeat (first | (with_reducible first | exact HB.out | apply below_alloc | apply pw_below_drewN | apply below_drew1) | exact HB.out)) hb); clear HO543; clear HB; have HO543 := n0_; have HO546 := n1_; have HO549 := n2_; have HO552 := n3_; have HO555 := n4_; have HB := n5_; clear n0_ n1_ n2_ n3_ n4_ n5_; (try clear hb); (try clear hb2); (try clear hk); (try clear hi); (try clear ho0); (try clear ho1); (try clear ho2); (try clear ho3)) | ((with_reducible refine gate_dst (N := 8) rfl ?_); refine box_event ?hg (N := 8) ?hd (cs := #[.slice none 0 0, .slice none 0 0, .slice none 0 0, .slice none 0 0]) (t := 63) ?hr ?_; (case hd => rfl); (case hg => rfl); (case hr => first | (go_simp; done) | (go_simp; rfl)); intro gb557 hg w44 hbox hb; have n0_ := Aside0.mk (Kd.R_below (by (with_reducible repeat (first | apply Kd.R_alloc | apply Kd.R_drewN | apply Kd.R_drew)); exact HO543.out) hb); have n1_ := Aside0.mk (Kd.R_below (by (with_reducible repeat (first | apply Kd.R_alloc | apply Kd.R_drewN | apply Kd.R_drew)); exact HO546.out) hb); have n2_ := Aside0.mk (Kd.R_below (by (with_reducible repeat (first | apply Kd.R_alloc | apply Kd.R_drewN | apply Kd.R_drew)); exact HO549.out) hb); have n3_ := Aside0.mk (Kd.R_below (by (with_reducible repeat (first | apply Kd.R_alloc | apply Kd.R_drewN | apply Kd.R_drew)); exact HO552.out) hb); have n4_ := Aside0.mk (Kd.R_below (by (with_reducible repeat (first | apply Kd.R_alloc | apply Kd.R_drewN | apply Kd.R_drew)); exact HO555.out) hb); have n5_ := Aside0.mk (below_step (by repeat (first | (with_reducible first | exact HB.out | apply below_alloc | apply pw_below_drewN | apply below_drew1) | exact HB.out)) hb); have n6_ := Aside0.mk (hbox); have n7_ := Aside0.mk ((by rw [hg]; exact (below_size (by repeat (first | (with_reducible first | exact HB.out | apply below_alloc | apply pw_below_drewN | apply below_drew1) | exact HB.out))) : w.heap.size ≤ gb557)); have n8_ := Aside0.mk ((by rw [hg]; exact (below_size (by repeat (first | (with_reducible first | exact HB.out | apply below_alloc | apply pw_below_drewN | apply below_drew1) | exact HB.out))) : w.heap.size ≤ gb557)); clear HO543; clear HO546; clear HO549; clear HO552; clear HO555; clear HB; have HO543 := n0_; have HO546 := n1_; have HO549 := n2_; have HO552 := n3_; have HO555 := n4_; have HB := n5_; have BK557 := n6_; have GW557 := n7_; have GE557 := n8_; clear n0_ n1_ n2_ n3_ n4_ n5_ n6_ n7_ n8_; clear hb hbox hg; obtain ⟨Ao45, co45, eo45⟩ := Kd.R_slice HO546.out; subst eo45; have hcz46_0 : w44.cell? ⟨gb557, 0, none⟩ = some (.slice none 0 0) := (blk_cell BK557.out 0).trans rfl; have hcz46_1 : w44.cell? ⟨gb557, 1, none⟩ = some (.slice none 0 0) := (blk_cell BK557.out 1).trans rfl; have hcz46_2 : w44.cell? ⟨gb557, 2, none⟩ = some (.slice none 0 0) := (blk_cell BK557.out 2).trans rfl; have hcz46_3 : w44.cell? ⟨gb557, 3, none⟩ = some (.slice none 0 0) := (blk_cell BK557.out 3).trans rfl; have hfz46_0 := blk_frozen BK557.out 0; have hfz46_1 := blk_frozen BK557.out 1; have hfz46_2 := blk_frozen BK557.out 2; have hfz46_3 := blk_frozen BK557.out 3; obtain ⟨Ao47, co47, eo47⟩ := Kd.R_slice HO549.out; subst eo47; obtain ⟨Ao48, co48, eo48⟩ := Kd.R_slice HO552.out; subst eo48; obtain ⟨Ao49, co49, eo49⟩ := Kd.R_slice HO555.out; subst eo49))
                go_ret2
                exact ⟨_, by first | rfl | (simp [errW_none, errW_some] <;> rfl) | (simp [*, errW_none, errW_some] <;> rfl), by (with_reducible repeat (first | apply Kd.R_alloc | apply Kd.R_drewN | apply Kd.R_drew)); exact Kd.R_mono (Kd.R_far (p := ⟨gb557, 3, none⟩) (Kd.R_far (p := ⟨gb557, 2, none⟩) (Kd.R_far (p := ⟨gb557, 1, none⟩) (Kd.R_far (p := ⟨gb557, 0, none⟩) (Kd.R_types HO555.out BK557.out (by decide)) (fun _ hk => hk.2) (.slice Ao45 t544.length co45)) (fun _ hk => hk.2) (.slice Ao47 t547.length co47)) (fun _ hk => hk.2) (.slice Ao48 t550.length co48)) (fun _ hk => hk.2) (.slice Ao49 t553.length co49)) (fun _ hk => trivial), by repeat (first | (with_reducible first | exact HB.out | apply below_alloc | apply pw_below_drewN | apply below_drew1 | refine below_set ?_ GE557.out) | exact HB.out)⟩
              · rw [if_neg c40] at H
                clear c40
                exact absurd H (by simp)
  · rw [if_neg c4] at H
    have c4b0 : (t541 == 0) = false := beq_eq_false_iff_ne.mpr c4
    have c4b1 : (t541 != 0) = true := bne_iff_ne.mpr c4
    simp only [Option.some.injEq, Prod.mk.injEq] at H
    obtain ⟨rfl, rfl⟩ := H
    go_enter Tryd.func21, Tryd.ntmps21
    go_wp2_with (first | ((with_reducible refine gate_callee (f := 28) rfl ?_); refine goesL_ (some 11) rfl rfl Tryd.func28 (by kernel_rfl) rfl #[.slice A0 l0.length c0] rfl (by (try simp only [List.map_toArray, List.map_cons, List.map_nil]); first | done | rfl | (simp only [List.length_drop, List.length_take]; rfl)) ?_; (with_reducible refine (conv_Code.calls k _ _ l0 t540 t541 _ ?side1 ?side2 A3.out).mono ?_); (case side1 => repeat (first | exact HR0.out | (with_reducible refine Kd.C_alloc ?_ _) | (with_reducible refine Kd.C_drewN ?_ _) | (with_reducible refine Kd.C_drew ?_))); (case side2 => exact HC0.out); rintro e w50 ⟨v542, rfl, ho0, hb⟩; refine ⟨_, rfl, ?_⟩; have n0_ := Aside0.mk (Kd.R_lower ho0 (below_size (by repeat (first | (with_reducible first | exact HB.out | apply below_alloc | apply pw_below_drewN | apply below_drew1) | exact HB.out)))); have n1_ := Aside0.mk (below_step (by repeat (first | (with_reducible first | exact HB.out | apply below_alloc | apply pw_below_drewN | apply below_drew1) | exact HB.out)) hb); clear HB; have HO543 := n0_; have HB := n1_; clear n0_ n1_; (try clear hb); (try clear hb2); (try clear hk); (try clear hi); (try clear ho0)))
    go_ret2
    exact ⟨_, by first | rfl | (simp [errW_none, errW_some] <;> rfl) | (simp [*, errW_none, errW_some] <;> rfl), by first | exact Kd.R_nil _ _ _ _ _ | exact Kd.N_nil _ _ _ _ _ | exact Kd.V_nil _ _ _ _ _ | exact Kd.Q_nil _ _ _ _ _ | exact Kd.S_nil _ _ _ _ _, by repeat (first | (with_reducible first | exact HB.out | apply below_alloc | apply pw_below_drewN | apply below_drew1) | exact HB.out)⟩

end Go.Proofs.YtmajbcglpcagoaaDoor.X

-- YtmajbcglpcagoaaDoorX47
namespace Go.Proofs.YtmajbcglpcagoaaDoor.X
open Go.RowKit Go.Proofs.YtmajbcglpcagoaaDoorW.PrintWords Go.Proofs.YtmajbcglpcagoaaDoorW.PrintLast Go.Proofs.YtmajbcglpcagoaaDoorW.PrintMore
attribute [local go_sem] max2_int min2_int max_two min_two max_three min_three max_four min_four   -- for this text's walks alone
set_option linter.unusedVariables false
set_option linter.unusedSimpArgs false

/-! ### shuttleref10_Pick: function 22 -/
def shuttleref10_Pick.l0 : Nat → List Int → Int → List Int → Int → Option (List Int)
  | 0, _, _, _, _ => none
  | k + 1, x0, x1, x5, x6 => if (wrap64 (4 * x6)) < (x0.length : Int) then ((shuttleref10_Stream.f x1 x6).bind fun t558 => (if 0 ≤ (wrap64 ((wrap64 (4 * x6)) + t558)) then (if (wrap64 ((wrap64 (4 * x6)) + t558)) < (x0.length : Int) then (if x5.length < 140737488355328 then (shuttleref10_Pick.l0 k x0 x1 (x5 ++ [rd x0 (wrap64 ((wrap64 (4 * x6)) + t558))]) (wrap64 (x6 + 1))) else (none)) else (none)) else (none))) else (some x5)
def shuttleref10_Pick.f (k : Nat) (l0 : List Int) (a1 : Int) : Option (List Int) := shuttleref10_Pick.l0 k l0 a1 ([] : List Int) 0
theorem shuttleref10_Pick.mono_l : ∀ k, (∀ y0 y1 y2 y3, LeO (shuttleref10_Pick.l0 k y0 y1 y2 y3) (shuttleref10_Pick.l0 (k + 1) y0 y1 y2 y3))
  | 0 => fun _ _ _ _ r h => by simp [shuttleref10_Pick.l0] at h
  | k + 1 => by
    have ih0 := shuttleref10_Pick.mono_l k
    · intro y0 y1 y2 y3
      unfold shuttleref10_Pick.l0
      repeat' first
      | (with_reducible exact ih0 _ _ _ _)
      | (with_reducible exact LeO.refl _)
      | (with_reducible exact LeO.none _)
      | (with_reducible refine LeO.ite ?_ ?_)
      | (with_reducible refine LeO.bind ?_ (fun _ => ?_))
      | exact ih0 _ _ _ _
      | exact LeO.none _
      | refine LeO.ite ?_ ?_
      | refine LeO.bind ?_ (fun _ => ?_)
theorem shuttleref10_Pick.mono : ∀ a0 a1 k, LeO (shuttleref10_Pick.f k a0 a1) (shuttleref10_Pick.f (k + 1) a0 a1) := by
  intro a0 a1 k
  have ih0 := shuttleref10_Pick.mono_l k
  unfold shuttleref10_Pick.f
  repeat' first
      | (with_reducible exact ih0 _ _ _ _)
      | (with_reducible exact LeO.refl _)
      | (with_reducible exact LeO.none _)
      | (with_reducible refine LeO.ite ?_ ?_)
      | (with_reducible refine LeO.bind ?_ (fun _ => ?_))
      | exact ih0 _ _ _ _
      | exact LeO.none _
      | refine LeO.ite ?_ ?_
      | refine LeO.bind ?_ (fun _ => ?_)
set_option maxHeartbeats 8000000 in
set_option maxRecDepth 100000 in
theorem shuttleref10_Pick.calls (k : Nat) (A0 : Option Addr) (c0 : Nat) (l0 : List Int) (a1 : Int) (r : List Int) (w : World) (hr0 : Kd.C (Kd.int .u8) w A0 l0.length l0) (hc0 : l0.length ≤ c0) (h : shuttleref10_Pick.f k l0 a1 = some r) :
    Calls Tryd.prog 22 #[.slice A0 l0.length c0, .int .i64 a1] w fun e w' => ∃ v0_ : Value, e = .returned (v0_) ∧ Kd.R (Kd.int .u8) 5 w' w.heap.size (fun _ => True) v0_ r ∧ Below w.heap.size w w' := by
  have HR0 := Aside0.mk hr0
  have HC0 := Aside0.mk hc0
  clear hr0 hc0
  have HB := Aside0.mk (Below.refl w.heap.size w)
  have H : (shuttleref10_Pick.l0 k l0 a1 ([] : List Int) 0) = some r := h
  clear h
  have H' := Aside0.mk H
  clear H
  go_enter Tryd.func22, Tryd.ntmps22
  go_wp2
  go_loopg [5, 6] k (fun kq v5 v6 w' => ∃ (x5_1 : List Int) (x6_1 : Int), v6 = .int .i64 x6_1 ∧ Aside0 (shuttleref10_Pick.l0 kq l0 a1 x5_1 x6_1 = some r) ∧ Aside0 (kq ≤ k) ∧ Aside0 (Kd.R (Kd.int .u8) 5 w' w.heap.size (fun _ => True) v5 x5_1) ∧ Aside0 (Below w.heap.size w w'))
  case atStart => exact ⟨(([] : List Int)), (0), (by first | rfl | (simp; done) | (simp [*]; done)), H', ⟨Nat.le_refl _⟩, ⟨by first | exact Kd.R_nil _ _ _ _ _ | exact Kd.N_nil _ _ _ _ _ | exact Kd.V_nil _ _ _ _ _ | exact Kd.Q_nil _ _ _ _ _ | exact Kd.S_nil _ _ _ _ _⟩, ⟨by repeat (first | (with_reducible first | exact HB.out | apply below_alloc | apply pw_below_drewN | apply below_drew1) | exact HB.out)⟩⟩
  case round =>
    clear H'
    try clear c2
    try clear p2
    obtain ⟨x5_1, x6_1, rfl, HA, HK1, HO_5, HB⟩ := hrel
    cases gk with
    | zero => exact absurd HA.out (by simp [shuttleref10_Pick.l0])
    | succ k1 =>
      have H := HA.out
      clear HA
      simp only [shuttleref10_Pick.l0] at H
      by_cases c3 : (wrap64 (4 * x6_1)) < (l0.length : Int)
      · rw [if_pos c3] at H
        have c3b0 : decide ((wrap64 (4 * x6_1)) < (l0.length : Int)) = true := decide_eq_true c3
        clear c3
        replace H := Option.bind_eq_some_iff.mp H
        obtain ⟨t558, A40, H⟩ := H
        replace H : (if 0 ≤ (wrap64 ((wrap64 (4 * x6_1)) + t558)) then (if (wrap64 ((wrap64 (4 * x6_1)) + t558)) < (l0.length : Int) then (if x5_1.length < 140737488355328 then (shuttleref10_Pick.l0 k1 l0 a1 (x5_1 ++ [rd l0 (wrap64 ((wrap64 (4 * x6_1)) + t558))]) (wrap64 (x6_1 + 1))) else (none)) else (none)) else (none)) = some r := H
        have A4 := Aside0.mk A40
        clear A40
        obtain ⟨ji5, hji5⟩ : ∃ j_ : Int, (wrap64 ((wrap64 (4 * x6_1)) + t558)) = j_ := ⟨_, rfl⟩
        replace H : (if 0 ≤ (ji5) then (if (ji5) < (l0.length : Int) then (if x5_1.length < 140737488355328 then (shuttleref10_Pick.l0 k1 l0 a1 (x5_1 ++ [rd l0 (ji5)]) (wrap64 (x6_1 + 1))) else (none)) else (none)) else (none)) = some r := by first | (rw [hji5] at H; exact H) | (simp only [hji5] at H ⊢; exact H)
        (try rw [hji5] at A4)
        have hji5w : (IntKind.i64.wrap ((wrap64 (4 * x6_1)) + t558)) = ji5 := (i64_w _).trans hji5
        by_cases c6 : 0 ≤ (ji5)
        · rw [if_pos c6] at H
          have c6b0 : decide (0 ≤ (ji5)) = true := decide_eq_true c6
          clear c6
          by_cases c7 : (ji5) < (l0.length : Int)
          · rw [if_pos c7] at H
            have c7b0 : decide ((ji5) < (l0.length : Int)) = true := decide_eq_true c7
            clear c7
            by_cases c8 : x5_1.length < 140737488355328
            · rw [if_pos c8] at H
              have LMc8 := Aside0.mk c8
              clear c8
              obtain ⟨y560, hy560⟩ : ∃ y_ : List Int, y_ = (x5_1 ++ [rd l0 (ji5)]) := ⟨_, rfl⟩
              replace H : (shuttleref10_Pick.l0 k1 l0 a1 y560 (wrap64 (x6_1 + 1))) = some r := by first | (rw [hy560]; with_reducible exact H) | (have H2_ := (Option.bind_some _ _).symm.trans H; rw [hy560]; with_reducible exact H2_) | (have H2_ := (Option.bind_some _ _).symm.trans H; with_reducible exact H2_) | with_reducible exact H | (rw [hy560]; exact H) | exact H
              have Ny560 := Aside0.mk hy560
              clear hy560
              have H' := Aside0.mk H
              clear H
              go_wp2_with (first | ((with_reducible refine gate_callee (f := 37) rfl ?_); refine goesL_ (some 20) rfl rfl Tryd.func37 (by kernel_rfl) rfl #[.int .i64 a1, .int .i64 x6_1] rfl (by (try simp only [List.map_toArray, List.map_cons, List.map_nil]); first | done | rfl | (simp only [List.length_drop, List.length_take]; rfl)) ?_; (with_reducible refine (shuttleref10_Stream.calls a1 x6_1 t558 _ A4.out).mono ?_); rintro e w' ⟨rfl, ⟨nd, rfl⟩⟩; refine ⟨_, rfl, ?_⟩; have p559 : 0 ≤ ((ji5) : Int) := of_decide_eq_true (by first | (with_reducible assumption) | assumption); have q559 : (ji5) < (l0.length : Int) := of_decide_eq_true (by first | (with_reducible assumption) | assumption); obtain ⟨ad559, e559, hx559_0⟩ := Kd.at_int HR0.out (ji5) p559 q559; cases e559; replace hx559_0 := (HB.out.cell (World.block_lt_of_cell? w _ hx559_0)).trans hx559_0; replace p559 := eq_true p559; replace q559 := eq_true q559) | ((with_reducible refine gate_builtin (b := .append) (xs := #[.tmp 14, .tmp 24]) rfl ?_); at_builtin; refine Kd.R_append (Kd.int .u8) (w0 := w) w.heap.size rfl (.tmp 14) (.tmp 24) 35 5 (.int .u8 0) 1 rfl Tryd.underlying35 info5 rfl (by decide) (by omega) u5 x5_1 (rd l0 (ji5)) [.int .u8 (rd l0 (ji5))] (fun _ => True) (fun _ => False) rfl rfl ?aP (fun _ hk => hk.elim) ?aF ?aO ?aB ?aS ?aL ?_; (case aP => exact rfl); (case aB => exact (by repeat (first | (with_reducible first | exact HB.out | apply below_alloc | apply pw_below_drewN | apply below_drew1) | exact HB.out))); (case aF => exact (fun _ _ => trivial)); (case aO => exact (by (with_reducible repeat (first | apply Kd.R_alloc | apply Kd.R_drewN | apply Kd.R_drew)); exact HO_5.out)); (case aS => exact (below_size (by repeat (first | (with_reducible first | exact HB.out | apply below_alloc | apply pw_below_drewN | apply below_drew1) | exact HB.out)))); (case aL => have := LMc8.out; omega); intro v561 w9 ho hb hg hat; rw [← Ny560.out] at ho; have n0_ := Aside0.mk (hb); have n1_ := Aside0.mk (ho); clear HB; clear HO_5; have HB := n0_; have HO562 := n1_; clear n0_ n1_; clear ho hb hg hat))
              go_roundg k1
              case measure => have := HK1.out; omega
              case rel => exact ⟨(y560), (wrap64 (x6_1 + 1)), (by first | rfl | (simp; done) | (simp [*]; done)), H', ⟨by have := HK1.out; omega⟩, ⟨by (with_reducible repeat (first | apply Kd.R_alloc | apply Kd.R_drewN | apply Kd.R_drew)); exact HO562.out⟩, ⟨by repeat (first | (with_reducible first | exact HB.out | apply below_alloc | apply pw_below_drewN | apply below_drew1) | exact HB.out)⟩⟩
            · rw [if_neg c8] at H
              exact absurd H (by simp)
          · rw [if_neg c7] at H
            exact absurd H (by simp)
        · rw [if_neg c6] at H
          exact absurd H (by simp)
      · rw [if_neg c3] at H
        have c3b0 : decide ((wrap64 (4 * x6_1)) < (l0.length : Int)) = false := decide_eq_false c3
        clear c3
        obtain rfl := Option.some.inj H
        go_wp2
        go_ret
        exact ⟨_, by first | rfl | (simp [errW_none, errW_some] <;> rfl) | (simp [*, errW_none, errW_some] <;> rfl), by (with_reducible repeat (first | apply Kd.R_alloc | apply Kd.R_drewN | apply Kd.R_drew)); exact HO_5.out, by repeat (first | (with_reducible first | exact HB.out | apply below_alloc | apply pw_below_drewN | apply below_drew1) | exact HB.out)⟩

end Go.Proofs.YtmajbcglpcagoaaDoor.X

-- YtmajbcglpcagoaaDoorXVersion
namespace Go.Proofs.YtmajbcglpcagoaaDoor.X
open Go.RowKit Go.Proofs.YtmajbcglpcagoaaDoorW.PrintWords Go.Proofs.YtmajbcglpcagoaaDoorW.PrintLast Go.Proofs.YtmajbcglpcagoaaDoorW.PrintMore
set_option linter.unusedVariables false
/-- Which stream a version tells at a step. -/
def strm (v t : Nat) : Nat := (v + t % 4) % 4
theorem strm_lt (v t : Nat) : strm v t < 4 := by unfold strm; omega
theorem stream_f (v t : Nat) (hv : v < 4) (ht : (t : Int) ≤ 9223372036854775807) : pattern_Stream.f (v : Int) (t : Int) = some (((strm v t : Nat) : Int), 0) := by
  unfold pattern_Stream.f pattern_one.f
  rw [if_pos (by omega), if_pos (by omega), decide_eq_true (show (t : Int) ≥ 0 by omega), Option.bind_some, if_pos rfl]
  rw [Int.tmod_eq_emod_of_nonneg (show (0 : Int) ≤ (t : Int) by omega), wrap_in (by omega) (by omega), Int.tmod_eq_emod_of_nonneg (by omega)]
  unfold strm
  congr 2
theorem rstream_f (v t : Nat) (hv : v < 4) (ht : (t : Int) ≤ 9223372036854775807) : shuttleref10_Stream.f (v : Int) (t : Int) = some ((strm v t : Nat) : Int) := by
  unfold shuttleref10_Stream.f
  rw [Int.tmod_eq_emod_of_nonneg (show (0 : Int) ≤ (t : Int) by omega), wrap_in (by omega) (by omega), Int.tmod_eq_emod_of_nonneg (by omega)]
  unfold strm
  congr 1
theorem right_yes {s b : Int} (hs : 0 ≤ s ∧ s ≤ 63) (hb : isb b) : conv_right.f s b = some true := by
  have := isb01 hb
  unfold conv_right.f
  rw [if_pos (by omega), if_pos (by omega), decide_eq_true (by omega)]
theorem Out_f {b : Nat → Int} (hb : ∀ j, isb (b j)) : conv_Out.f (sd b) (b 0) = some (bitB b 0 7, bitB b 1 7, bitB b 2 7, bitB b 3 7, 0) := by
  unfold conv_Out.f
  rw [right_yes (sd_in hb) (hb 0), Option.bind_some, if_pos rfl, word_f (sd_in hb) (hb 0), Option.bind_some]
  rw [show 64 * b 0 + sd b = wd b from rfl, out_f hb, Option.bind_some]
theorem Next_f {b : Nat → Int} (hb : ∀ j, isb (b j)) : conv_Next.f (sd b) (b 0) = some (wd b / 2, 0) := by
  have := wd_in hb
  unfold conv_Next.f
  rw [right_yes (sd_in hb) (hb 0), Option.bind_some, if_pos rfl, word_f (sd_in hb) (hb 0), Option.bind_some]
  rw [show 64 * b 0 + sd b = wd b from rfl, wrap_in (by omega) (by omega)]
/-- What a version alone tells, bit by bit. -/
def dec (p : List Int) (v : Nat) : Nat → List Int
  | 0 => []
  | t + 1 => dec p v t ++ [Go.bits .xor .u8 (bitB (lb (dec p v t) t) (strm v t) 7) (p.getD t 0)]
theorem dec_succ (p : List Int) (v t : Nat) : dec p v (t + 1) = dec p v t ++ [Go.bits .xor .u8 (bitB (lb (dec p v t) t) (strm v t) 7) (p.getD t 0)] := rfl
theorem dec_length (p : List Int) (v : Nat) : ∀ t, (dec p v t).length = t
  | 0 => rfl
  | t + 1 => by unfold dec; rw [List.length_append, dec_length p v t]; rfl
theorem dec_isb {p : List Int} (hp : ∀ x ∈ p, isb x) (v : Nat) : ∀ t, ∀ x ∈ dec p v t, isb x
  | 0 => by intro x hx; cases hx
  | t + 1 => by
    intro x hx
    unfold dec at hx
    rcases List.mem_append.1 hx with h | h
    · exact dec_isb hp v t x h
    · rw [List.mem_singleton.1 h]
      exact xor_isb (bitB_isb (lb_isb (dec_isb hp v t) t) _ _) (getD_isb hp t)
theorem dec_zero (p : List Int) (v t : Nat) : lb (dec p v t) t 0 = 0 := by
  rw [lb_zero, getD_out _ _ (by rw [dec_length]; omega)]
theorem lb_snoc (l : List Int) (x : Int) (t k : Nat) (h : l.length = t) (hk : 1 ≤ k) : lb (l ++ [x]) t k = lb l t k := by
  unfold lb
  by_cases c : k ≤ t
  · rw [if_pos c, if_pos c, List.getD_eq_getElem?_getD, List.getElem?_append_left (by omega), ← List.getD_eq_getElem?_getD]
  · rw [if_neg c, if_neg c]
theorem lb_snoc0 (l : List Int) (x : Int) (t : Nat) (h : l.length = t) : lb (l ++ [x]) t 0 = x := by
  rw [lb_zero, List.getD_eq_getElem?_getD, List.getElem?_append_right (by omega), h]
  simp
theorem sd_snoc (l : List Int) (x : Int) (t : Nat) (h : l.length = t) : sd (lb (l ++ [x]) t) = sd (lb l t) := by
  unfold sd
  rw [lb_snoc l x t 1 h (by omega), lb_snoc l x t 2 h (by omega), lb_snoc l x t 3 h (by omega), lb_snoc l x t 4 h (by omega), lb_snoc l x t 5 h (by omega), lb_snoc l x t 6 h (by omega)]
theorem bit_f {p : List Int} (hp : ∀ x ∈ p, isb x) (v t : Nat) (hv : v < 4) (ht : (t : Int) ≤ 9223372036854775807) :
    version_bit.f (sd (lb (dec p v t) t)) (v : Int) (t : Int) (p.getD t 0) = some ((dec p v (t + 1)).getD t 0, 0) := by
  have hb := lb_isb (dec_isb hp v t) t
  have e0 := Out_f hb
  rw [dec_zero] at e0
  have hd : (dec p v (t + 1)).getD t 0 = Go.bits .xor .u8 (bitB (lb (dec p v t) t) (strm v t) 7) (p.getD t 0) := by
    have := lb_snoc0 (dec p v t) (Go.bits .xor .u8 (bitB (lb (dec p v t) t) (strm v t) 7) (p.getD t 0)) t (dec_length p v t)
    rwa [lb_zero] at this
  rw [hd]
  unfold version_bit.f
  rw [e0, Option.bind_some, if_pos rfl, stream_f v t hv ht, Option.bind_some]
  have hs := strm_lt v t
  generalize strm v t = s at *
  obtain rfl | rfl | rfl | rfl : s = 0 ∨ s = 1 ∨ s = 2 ∨ s = 3 := by omega
  · rfl
  · rfl
  · rfl
  · rfl
theorem weight_l0 (l : List Int) (hl : l.length ≤ 100000) (hb : ∀ x ∈ l, isb x) (d : Nat) : ∀ (k i : Nat) (n : Int), i + d = l.length → d < k → 0 ≤ n → n ≤ i →
    ∃ r, bits_Weight.l0 k n l (l.length : Int) (i : Int) = some r ∧ (r = 0 ↔ n = 0 ∧ (l.drop i).all (fun x => x == 0) = true) := by
  induction d with
  | zero =>
    intro k i n hi hk h0 h1
    obtain ⟨k, rfl⟩ := pred hk
    refine ⟨n, ?_, ?_⟩
    · rw [bits_Weight.l0.eq_2, if_neg (by omega)]
    · rw [List.drop_eq_nil_of_le (by omega)]; simp
  | succ d ih =>
    intro k i n hi hk h0 h1
    obtain ⟨k, rfl⟩ := pred hk
    have hlt : i < l.length := by omega
    rw [bits_Weight.l0.eq_2, if_pos (by omega), if_pos (by omega), if_pos (by omega), rd_get l i hlt, wrap_succ i (by omega), drop_cons l i hlt, List.all_cons]
    by_cases c : l[i] = 0
    · rw [if_pos c]
      obtain ⟨r, e1, e2⟩ := ih k (i + 1) n (by omega) (by omega) h0 (by omega)
      refine ⟨r, e1, ?_⟩
      rw [e2, c]; simp
    · rw [if_neg c, wrap_in (by omega) (by omega)]
      obtain ⟨r, e1, e2⟩ := ih k (i + 1) (n + 1) (by omega) (by omega) (by omega) (by omega)
      refine ⟨r, e1, ?_⟩
      rw [e2, beq_eq_false_iff_ne.2 c]
      constructor
      · intro h; omega
      · intro h; simp at h
theorem weight_f (l : List Int) (hl : l.length ≤ 100000) (hb : ∀ x ∈ l, isb x) (k : Nat) (hk : l.length < k) : ∃ r, bits_Weight.f k l = some r ∧ (r = 0 ↔ l.all (fun x => x == 0) = true) := by
  obtain ⟨r, h1, h2⟩ := weight_l0 l hl hb l.length k 0 0 (by omega) hk (by omega) (by omega)
  exact ⟨r, h1, by rw [h2]; simp⟩
/-- Does what is told end by noughts? -/
def ends (p : List Int) (v : Nat) : Bool := ((dec p v p.length).drop (p.length - 6)).all fun x => x == 0
def told (p : List Int) (v : Nat) : List Int := (dec p v p.length).take (p.length - 6)
theorem alone_l0 (p : List Int) (hp : ∀ x ∈ p, isb x) (v : Nat) (hv : v < 4) (h6 : 6 ≤ p.length) (hl : p.length ≤ 1000) (d : Nat) : ∀ k i : Nat, i + d = p.length → d + 1000 < k →
    version_Alone.l0 k p (v : Int) (dec p v i) (sd (lb (dec p v i) i)) p (p.length : Int) (i : Int) = some (if ends p v = true then (told p v, 0) else ([], 13)) := by
  induction d with
  | zero =>
    intro k i hi hk
    obtain ⟨k, rfl⟩ := pred (show 0 < k by omega)
    obtain rfl : i = p.length := by omega
    have hdl := dec_length p v p.length
    have e6 : wrap64 ((p.length : Int) - 6) = ((p.length - 6 : Nat) : Int) := by rw [wrap_in (by omega) (by omega)]; omega
    rw [version_Alone.l0.eq_2, if_neg (by omega), e6, if_pos (by omega), if_pos (by omega), Int.toNat_natCast]
    obtain ⟨r, h1, h2⟩ := weight_f ((dec p v p.length).drop (p.length - 6)) (by rw [List.length_drop]; omega) (fun x hx => dec_isb hp v _ x (List.mem_of_mem_drop hx)) k (by rw [List.length_drop]; omega)
    rw [h1, Option.bind_some]
    unfold slices_Clone_byte_byte.f
    by_cases c : ends p v = true
    · rw [if_pos c, if_pos (h2.2 c), if_pos (by rw [List.length_take]; omega), Option.bind_some]; rfl
    · rw [if_neg c, if_neg (fun h => c (h2.1 h))]
  | succ d ih =>
    intro k i hi hk
    obtain ⟨k, rfl⟩ := pred (show 0 < k by omega)
    have hn := ih k (i + 1) (by omega) (by omega)
    have hb := lb_isb (dec_isb hp v (i + 1)) i
    have hdl := dec_length p v i
    have e1 := bit_f hp v i hv (by omega)
    have hlb0 : lb (dec p v (i + 1)) i 0 = (dec p v (i + 1)).getD i 0 := lb_zero _ _
    have hsd : sd (lb (dec p v (i + 1)) i) = sd (lb (dec p v i) i) := sd_snoc _ _ _ hdl
    have e2 := Next_f hb
    rw [hsd, hlb0] at e2
    have e3 : wd (lb (dec p v (i + 1)) i) / 2 = sd (lb (dec p v (i + 1)) (i + 1)) := (sd_succ _ (dec_isb hp v (i + 1)) i).symm
    have e4 : dec p v i ++ [(dec p v (i + 1)).getD i 0] = dec p v (i + 1) := by
      have : (dec p v (i + 1)).getD i 0 = Go.bits .xor .u8 (bitB (lb (dec p v i) i) (strm v i) 7) (p.getD i 0) := by
        have h := lb_snoc0 (dec p v i) (Go.bits .xor .u8 (bitB (lb (dec p v i) i) (strm v i) 7) (p.getD i 0)) i hdl
        rwa [lb_zero] at h
      rw [this]; rfl
    rw [version_Alone.l0.eq_2, if_pos (by omega), if_pos (by omega), if_pos (by omega), rd_getD, e1, Option.bind_some, if_pos rfl, if_pos (by omega), e2, Option.bind_some, if_pos rfl, e3, wrap_succ i (by omega)]
    show version_Alone.l0 k p (v : Int) (dec p v i ++ [(dec p v (i + 1)).getD i 0]) _ p _ _ = _
    rw [e4]
    exact hn
theorem alone_f (p : List Int) (hp : ∀ x ∈ p, isb x) (v : Nat) (hv : v < 4) (h6 : 6 ≤ p.length) (hl : p.length ≤ 1000) (k : Nat) (hk : 2000 < k) :
    version_Alone.f k p (v : Int) = some (if ends p v = true then (told p v, 0) else ([], 13)) := by
  unfold version_Alone.f
  rw [right_f p (by omega) k (by omega), (big_isb (fun x hx => (isb01 (hp x hx)).1)).2 hp, Option.bind_some, if_pos (show (!false) = true from rfl), if_neg (by omega), if_neg (by omega), if_neg (by omega)]
  have := alone_l0 p hp v hv h6 hl p.length k 0 (by omega) (by omega)
  rw [show sd (lb (dec p v 0) 0) = 0 from sd_start _] at this
  exact this
theorem ralone_l1 (p : List Int) (hp : ∀ x ∈ p, isb x) (v : Nat) (h6 : 6 ≤ p.length) (hl : p.length ≤ 1000) (d : Nat) : ∀ k i : Nat, i + d = p.length → d < k → p.length - 6 ≤ i →
    shuttleref11_Alone.l1 k (dec p v p.length) ((p.length - 6 : Nat) : Int) (i : Int) = some (if ((dec p v p.length).drop i).all (fun x => x == 0) = true then (told p v, true) else ([], false)) := by
  have hdl := dec_length p v p.length
  induction d with
  | zero =>
    intro k i hi hk h7
    obtain ⟨k, rfl⟩ := pred hk
    rw [shuttleref11_Alone.l1.eq_2, if_neg (by omega), if_pos (by omega), if_pos (by omega), Int.toNat_natCast, List.drop_eq_nil_of_le (by omega)]
    rfl
  | succ d ih =>
    intro k i hi hk h7
    obtain ⟨k, rfl⟩ := pred hk
    have hlt : i < (dec p v p.length).length := by omega
    have hn := ih k (i + 1) (by omega) (by omega) (by omega)
    rw [shuttleref11_Alone.l1.eq_2, if_pos (by omega), if_pos (by omega), rd_get _ i hlt, wrap_succ i (by omega), drop_cons _ i hlt, List.all_cons]
    by_cases c : (dec p v p.length)[i] = 0
    · rw [if_pos c, c, hn]; simp
    · rw [if_neg c, beq_eq_false_iff_ne.2 c]; simp
theorem xor_eq {x y : Int} (hx : isb x) (hy : isb y) : Go.bits .xor .u8 x y = if x = y then 0 else 1 := by
  rcases hx with rfl | rfl <;> rcases hy with rfl | rfl <;> decide +kernel
theorem ralone_l0 (p : List Int) (hp : ∀ x ∈ p, isb x) (v : Nat) (hv : v < 4) (h6 : 6 ≤ p.length) (hl : p.length ≤ 1000) (d : Nat) : ∀ k i : Nat, i + d = p.length → d + 1000 < k →
    shuttleref11_Alone.l0 k p (v : Int) (dec p v i) (i : Int) = some (if ends p v = true then (told p v, true) else ([], false)) := by
  induction d with
  | zero =>
    intro k i hi hk
    obtain ⟨k, rfl⟩ := pred (show 0 < k by omega)
    obtain rfl : i = p.length := by omega
    have e6 : wrap64 ((p.length : Int) - 6) = ((p.length - 6 : Nat) : Int) := by rw [wrap_in (by omega) (by omega)]; omega
    rw [shuttleref11_Alone.l0.eq_2, if_neg (by omega), e6]
    exact ralone_l1 p hp v h6 hl 6 k (p.length - 6) (by omega) (by omega) (by omega)
  | succ d ih =>
    intro k i hi hk
    obtain ⟨k, rfl⟩ := pred (show 0 < k by omega)
    have hn := ih k (i + 1) (by omega) (by omega)
    have hdl := dec_length p v i
    have hd := dec_isb hp v i
    have hd0 : ∀ x ∈ dec p v i ++ [(0 : Int)], isb x := by
      intro x hx
      rcases List.mem_append.1 hx with h | h
      · exact hd x h
      · rw [List.mem_singleton.1 h]; exact .inl rfl
    have eb : shuttleref06_Bit.f (dec p v i ++ [0]) (i : Int) ((strm v i : Nat) : Int) = some (bitB (lb (dec p v i) i) (strm v i) 7) := by
      rw [rbit_f _ hd0 i (strm v i) (by omega) (strm_lt v i)]
      refine congrArg some (bitB_congr _ 7 fun j hj => ?_)
      by_cases c : j = 0
      · subst c; rw [lb_snoc0 _ _ _ hdl, dec_zero]
      · exact lb_snoc _ _ _ _ hdl (by omega)
    have hx := xor_eq (bitB_isb (lb_isb hd i) (strm v i) 7) (getD_isb hp i)
    have ed : dec p v (i + 1) = dec p v i ++ [if bitB (lb (dec p v i) i) (strm v i) 7 = p.getD i 0 then 0 else 1] := by rw [dec_succ, hx]
    rw [ed] at hn
    rw [shuttleref11_Alone.l0.eq_2, if_pos (by omega), Option.bind_some, List.length_nil, if_pos (by omega), Option.bind_some, Option.bind_some, List.nil_append, if_pos (by show (dec p v i).length + 1 < _; omega), rstream_f v i hv (by omega), Option.bind_some, eb, Option.bind_some, if_pos (by omega), rd_getD, wrap_succ i (by omega)]
    by_cases c : bitB (lb (dec p v i) i) (strm v i) 7 = p.getD i 0
    · rw [if_pos c] at hn ⊢
      rw [Option.bind_some, if_pos (by show (dec p v i).length + 1 < _; omega)]
      exact hn
    · rw [if_neg c] at hn ⊢
      rw [Option.bind_some, if_pos (by show (dec p v i).length + 1 < _; omega)]
      exact hn
theorem ralone_f (p : List Int) (hp : ∀ x ∈ p, isb x) (v : Nat) (hv : v < 4) (h6 : 6 ≤ p.length) (hl : p.length ≤ 1000) (k : Nat) (hk : 2000 < k) :
    shuttleref11_Alone.f k p (v : Int) = some (if ends p v = true then (told p v, true) else ([], false)) :=
  ralone_l0 p hp v hv h6 hl p.length k 0 (by omega) (by omega)
end Go.Proofs.YtmajbcglpcagoaaDoor.X

-- YtmajbcglpcagoaaDoorPureVersionAlone
namespace Go.Proofs.YtmajbcglpcagoaaDoor.Pure
open Go.RowKit Go.Proofs.YtmajbcglpcagoaaDoor.X Go.Proofs.YtmajbcglpcagoaaDoorW.PrintWords Go.Proofs.YtmajbcglpcagoaaDoorW.PrintLast Go.Proofs.YtmajbcglpcagoaaDoorW.PrintMore
set_option linter.unusedVariables false

theorem mn_nat60 (a : Nat) : mn (a : Int) 60 = ((min a 60 : Nat) : Int) := by unfold mn; split <;> omega
theorem splits_ok : shuttlelaw11_splits.f 10000 = some true := by decide +kernel
theorem VersionAlone : shuttlelaw11_VersionAlone.Pure := by
  intro l0 a1 m0 _ w0 w1
  refine ⟨10000, ?_⟩
  unfold shuttlelaw11_VersionAlone.f
  rw [mn_nat60, Option.bind_some, if_pos (by omega), if_pos (by omega), Int.toNat_natCast, List.length_nil, Nat.zero_add, List.nil_append]
  have hl : (l0.take (min l0.length 60)).length ≤ 60 := by rw [List.length_take]; omega
  have hw : ∀ x ∈ l0.take (min l0.length 60), 0 ≤ x ∧ x ≤ 255 := fun x hx => u8_of_wf w0 x (List.mem_of_mem_take hx)
  generalize l0.take (min l0.length 60) = l at *
  rw [if_pos (by omega), Option.bind_some]
  cases hb : l.any big with
  | true =>
    have e1 : version_Alone.f 10000 l a1 = some ([], 5) := by
      unfold version_Alone.f
      rw [right_f l (by omega) 10000 (by omega), hb, Option.bind_some, if_neg (by decide)]
    rw [e1, Option.bind_some, splits_ok, Option.bind_some, if_pos rfl, rright_f l (by omega) 10000 (by omega), hb, Option.bind_some, if_neg (by decide), if_pos rfl]
    rfl
  | false =>
    have hp := (big_isb (fun x hx => (hw x hx).1)).1 hb
    have er : bits_Right.f 10000 l = some true := by rw [right_f l (by omega) 10000 (by omega), hb]; rfl
    have err : shuttleref01_Right.f 10000 l = some true := by rw [rright_f l (by omega) 10000 (by omega), hb]; rfl
    by_cases c1 : a1 < 0
    · have e1 : version_Alone.f 10000 l a1 = some ([], 1) := by
        unfold version_Alone.f
        rw [er, Option.bind_some, if_pos rfl, if_pos c1]
      rw [e1, Option.bind_some, splits_ok, Option.bind_some, if_pos rfl, err, Option.bind_some, if_pos rfl, if_pos c1, if_pos rfl]
      rfl
    · by_cases c2 : a1 > 3
      · have e1 : version_Alone.f 10000 l a1 = some ([], 1) := by
          unfold version_Alone.f
          rw [er, Option.bind_some, if_pos rfl, if_neg c1, if_pos (by omega)]
        rw [e1, Option.bind_some, splits_ok, Option.bind_some, if_pos rfl, err, Option.bind_some, if_pos rfl, if_neg c1, if_pos c2, if_pos rfl]
        rfl
      · by_cases c3 : (l.length : Int) < 6
        · have e1 : version_Alone.f 10000 l a1 = some ([], 1) := by
            unfold version_Alone.f
            rw [er, Option.bind_some, if_pos rfl, if_neg c1, if_neg (by omega), if_pos c3]
          rw [e1, Option.bind_some, splits_ok, Option.bind_some, if_pos rfl, err, Option.bind_some, if_pos rfl, if_neg c1, if_neg c2, if_pos c3, if_pos rfl]
          rfl
        · obtain ⟨v, rfl⟩ := Int.eq_ofNat_of_zero_le (show 0 ≤ a1 by omega)
          have h1 := alone_f l hp v (by omega) (by omega) (by omega) 10000 (by omega)
          have h2 := ralone_f l hp v (by omega) (by omega) (by omega) 10000 (by omega)
          rw [h1, Option.bind_some, splits_ok, Option.bind_some, if_pos rfl, err, Option.bind_some, if_pos rfl, if_neg c1, if_neg c2, if_neg c3, h2, Option.bind_some]
          by_cases c : ends l v = true
          · rw [if_pos c, if_pos c, if_pos (show (((told l v, (0 : Int)).2 == 0) == (told l v, true).2) = true from rfl), if_pos rfl]
            simp
          · rw [if_neg c, if_neg c, if_pos (by decide), if_neg (by decide), if_pos rfl]
            simp

end Go.Proofs.YtmajbcglpcagoaaDoor.Pure
