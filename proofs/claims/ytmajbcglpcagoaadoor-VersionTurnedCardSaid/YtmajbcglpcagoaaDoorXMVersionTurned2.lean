/- Texts of this seat, one behind the other (merge.py): the walks of the functions that the law VersionTurned uses, and plain words on what they come to. No condition. -/
import Derived.Laws.BitsAllLaws
import Derived.OpenShut
import Derived.Laws.BytesArg
import Derived.Test.YtmajbcglpcagoaaDoorXMVersionTurned1
-- YtmajbcglpcagoaaDoorX46
namespace Go.Proofs.YtmajbcglpcagoaaDoor.X
open Go.RowKit Go.Proofs.YtmajbcglpcagoaaDoorW.PrintWords Go.Proofs.YtmajbcglpcagoaaDoorW.PrintLast Go.Proofs.YtmajbcglpcagoaaDoorW.PrintMore
attribute [local go_sem] max2_int min2_int max_two min_two max_three min_three max_four min_four   -- for this text's walks alone
set_option linter.unusedVariables false
set_option linter.unusedSimpArgs false

/-! ### version_Code: function 21 -/
def version_Code.f (k : Nat) (l0 : List Int) (a1 : Int) : Option (List Int × Int) := (conv_Code.f k l0).bind fun bt540 => (if bt540.2 = 0 then (if a1 < 0 then (some (([] : List Int), 1)) else (if a1 ≥ 4 then (some (([] : List Int), 1)) else ((version_Split.f k bt540.1).bind fun bt544 => (if a1 = 0 then (some (bt544.1, bt544.2.2.2.2)) else (if a1 = 1 then (some (bt544.2.1, bt544.2.2.2.2)) else (if a1 = 2 then (some (bt544.2.2.1, bt544.2.2.2.2)) else (if a1 = 3 then (some (bt544.2.2.2.1, bt544.2.2.2.2)) else (none)))))))) else (some (([] : List Int), bt540.2)))
theorem version_Code.mono : ∀ a0 a1 k, LeO (version_Code.f k a0 a1) (version_Code.f (k + 1) a0 a1) := by
  intro a0 a1 k
  unfold version_Code.f
  repeat' first
      | (with_reducible exact conv_Code.mono _ _)
      | (with_reducible exact version_Split.mono _ _)
      | (with_reducible exact LeO.refl _)
      | (with_reducible exact LeO.none _)
      | (with_reducible refine LeO.ite ?_ ?_)
      | (with_reducible refine LeO.bind ?_ (fun _ => ?_))
      | exact conv_Code.mono _ _
      | exact version_Split.mono _ _
      | exact LeO.none _
      | refine LeO.ite ?_ ?_
      | refine LeO.bind ?_ (fun _ => ?_)
set_option maxHeartbeats 8000000 in
set_option maxRecDepth 100000 in
theorem version_Code.calls (k : Nat) (A0 : Option Addr) (c0 : Nat) (l0 : List Int) (a1 : Int) (r1 : List Int) (r2 : Int) (w : World) (hr0 : Kd.C (Kd.int .u8) w A0 l0.length l0) (hc0 : l0.length ≤ c0) (h : version_Code.f k l0 a1 = some (r1, r2)) (hT_ : TP w := by first | assumption | exact TP_of (by assumption : TP _) (by repeat (first | (with_reducible first | apply below_alloc | apply pw_below_drewN | apply below_drew1 | refine below_set ?_ (Aside0.out (by assumption))) | exact Aside0.out (by assumption) | exact Below.refl _ _))) :
    Calls Tryd.prog 21 #[.slice A0 l0.length c0, .int .i64 a1] w fun e w' => ∃ v0_ : Value, e = .returned (.tuple #[v0_, .int .i64 r2]) ∧ Kd.R (Kd.int .u8) 5 w' w.heap.size (fun _ => True) v0_ r1 ∧ Below w.heap.size w w' := by
  have hu63 := Tryd.underlying63
  have HR0 := Aside0.mk hr0
  have HC0 := Aside0.mk hc0
  clear hr0 hc0
  have HB := Aside0.mk (Below.refl w.heap.size w)
  have H : ((conv_Code.f k l0).bind fun bt540 => (if bt540.2 = 0 then (if a1 < 0 then (some (([] : List Int), 1)) else (if a1 ≥ 4 then (some (([] : List Int), 1)) else ((version_Split.f k bt540.1).bind fun bt544 => (if a1 = 0 then (some (bt544.1, bt544.2.2.2.2)) else (if a1 = 1 then (some (bt544.2.1, bt544.2.2.2.2)) else (if a1 = 2 then (some (bt544.2.2.1, bt544.2.2.2.2)) else (if a1 = 3 then (some (bt544.2.2.2.1, bt544.2.2.2.2)) else (none)))))))) else (some (([] : List Int), bt540.2)))) = some (r1, r2) := h
  clear h
  replace H := Option.bind_eq_some_iff.mp H
  obtain ⟨⟨t540, t541⟩, A30, H⟩ := H
  replace H : (if t541 = 0 then (if a1 < 0 then (some (([] : List Int), 1)) else (if a1 ≥ 4 then (some (([] : List Int), 1)) else ((version_Split.f k t540).bind fun bt544 => (if a1 = 0 then (some (bt544.1, bt544.2.2.2.2)) else (if a1 = 1 then (some (bt544.2.1, bt544.2.2.2.2)) else (if a1 = 2 then (some (bt544.2.2.1, bt544.2.2.2.2)) else (if a1 = 3 then (some (bt544.2.2.2.1, bt544.2.2.2.2)) else (none)))))))) else (some (([] : List Int), t541))) = some (r1, r2) := H
  have A3 := Aside0.mk A30
  clear A30
  by_cases c4 : t541 = 0
  · rw [if_pos c4] at H
    have c4b0 : (t541 == 0) = true := beq_iff_eq.mpr c4
    have c4b1 : (t541 != 0) = false := bne_eq_false_iff_eq.mpr c4
    clear c4
    by_cases c5 : a1 < 0
    · rw [if_pos c5] at H
      have c5b0 : decide (a1 < 0) = true := decide_eq_true c5
      clear c5
      simp only [Option.some.injEq, Prod.mk.injEq] at H
      obtain ⟨rfl, rfl⟩ := H
      go_enter Tryd.func21, Tryd.ntmps21
      go_wp2_with (first | ((with_reducible refine gate_callee (f := 28) rfl ?_); refine goesL_ (some 11) rfl rfl Tryd.func28 (by kernel_rfl) rfl #[.slice A0 l0.length c0] rfl (by (try simp only [List.map_toArray, List.map_cons, List.map_nil]); first | done | rfl | (simp only [List.length_drop, List.length_take]; rfl)) ?_; (with_reducible refine (conv_Code.calls k _ _ l0 t540 t541 _ ?side1 ?side2 A3.out).mono ?_); (case side1 => repeat (first | exact HR0.out | (with_reducible refine Kd.C_alloc ?_ _) | (with_reducible refine Kd.C_drewN ?_ _) | (with_reducible refine Kd.C_drew ?_))); (case side2 => exact HC0.out); rintro e w6 ⟨v542, rfl, ho0, hb⟩; refine ⟨_, rfl, ?_⟩; have n0_ := Aside0.mk (Kd.R_lower ho0 (below_size (by repeat (first | (with_reducible first | exact HB.out | apply below_alloc | apply pw_below_drewN | apply below_drew1) | exact HB.out)))); have n1_ := Aside0.mk (below_step (by repeat (first | (with_reducible first | exact HB.out | apply below_alloc | apply pw_below_drewN | apply below_drew1) | exact HB.out)) hb); clear HB; have HO543 := n0_; have HB := n1_; clear n0_ n1_; (try clear hb); (try clear hb2); (try clear hk); (try clear hi); (try clear ho0)))
      go_ret2
      exact ⟨_, by first | rfl | (simp [errW_none, errW_some] <;> rfl) | (simp [*, errW_none, errW_some] <;> rfl), by first | exact Kd.R_nil _ _ _ _ _ | exact Kd.N_nil _ _ _ _ _ | exact Kd.V_nil _ _ _ _ _ | exact Kd.Q_nil _ _ _ _ _ | exact Kd.S_nil _ _ _ _ _, by repeat (first | (with_reducible first | exact HB.out | apply below_alloc | apply pw_below_drewN | apply below_drew1) | exact HB.out)⟩
    · rw [if_neg c5] at H
      have c5b0 : decide (a1 < 0) = false := decide_eq_false c5
      clear c5
      by_cases c7 : a1 ≥ 4
      · rw [if_pos c7] at H
        have c7b0 : decide (4 ≤ a1) = true := decide_eq_true c7
        clear c7
        simp only [Option.some.injEq, Prod.mk.injEq] at H
        obtain ⟨rfl, rfl⟩ := H
        go_enter Tryd.func21, Tryd.ntmps21
        go_wp2_with (first | ((with_reducible refine gate_callee (f := 28) rfl ?_); refine goesL_ (some 11) rfl rfl Tryd.func28 (by kernel_rfl) rfl #[.slice A0 l0.length c0] rfl (by (try simp only [List.map_toArray, List.map_cons, List.map_nil]); first | done | rfl | (simp only [List.length_drop, List.length_take]; rfl)) ?_; (with_reducible refine (conv_Code.calls k _ _ l0 t540 t541 _ ?side1 ?side2 A3.out).mono ?_); (case side1 => repeat (first | exact HR0.out | (with_reducible refine Kd.C_alloc ?_ _) | (with_reducible refine Kd.C_drewN ?_ _) | (with_reducible refine Kd.C_drew ?_))); (case side2 => exact HC0.out); rintro e w8 ⟨v542, rfl, ho0, hb⟩; refine ⟨_, rfl, ?_⟩; have n0_ := Aside0.mk (Kd.R_lower ho0 (below_size (by repeat (first | (with_reducible first | exact HB.out | apply below_alloc | apply pw_below_drewN | apply below_drew1) | exact HB.out)))); have n1_ := Aside0.mk (below_step (by repeat (first | (with_reducible first | exact HB.out | apply below_alloc | apply pw_below_drewN | apply below_drew1) | exact HB.out)) hb); clear HB; have HO543 := n0_; have HB := n1_; clear n0_ n1_; (try clear hb); (try clear hb2); (try clear hk); (try clear hi); (try clear ho0)))
        go_ret2
        exact ⟨_, by first | rfl | (simp [errW_none, errW_some] <;> rfl) | (simp [*, errW_none, errW_some] <;> rfl), by first | exact Kd.R_nil _ _ _ _ _ | exact Kd.N_nil _ _ _ _ _ | exact Kd.V_nil _ _ _ _ _ | exact Kd.Q_nil _ _ _ _ _ | exact Kd.S_nil _ _ _ _ _, by repeat (first | (with_reducible first | exact HB.out | apply below_alloc | apply pw_below_drewN | apply below_drew1) | exact HB.out)⟩
      · rw [if_neg c7] at H
        have c7b0 : decide (4 ≤ a1) = false := decide_eq_false c7
        clear c7
        replace H := Option.bind_eq_some_iff.mp H
        obtain ⟨⟨t544, t547, t550, t553, t556⟩, A90, H⟩ := H
        replace H : (if a1 = 0 then (some (t544, t556)) else (if a1 = 1 then (some (t547, t556)) else (if a1 = 2 then (some (t550, t556)) else (if a1 = 3 then (some (t553, t556)) else (none))))) = some (r1, r2) := H
        have A9 := Aside0.mk A90
        clear A90
        by_cases c10 : a1 = 0
        · rw [if_pos c10] at H
          subst c10
          simp only [Option.some.injEq, Prod.mk.injEq] at H
          obtain ⟨rfl, rfl⟩ := H
          go_enter Tryd.func21, Tryd.ntmps21
          go_wp2_with (first | ((with_reducible refine gate_callee (f := 28) rfl ?_); refine goesL_ (some 11) rfl rfl Tryd.func28 (by kernel_rfl) rfl #[.slice A0 l0.length c0] rfl (by (try simp only [List.map_toArray, List.map_cons, List.map_nil]); first | done | rfl | (simp only [List.length_drop, List.length_take]; rfl)) ?_; (with_reducible refine (conv_Code.calls k _ _ l0 t540 t541 _ ?side1 ?side2 A3.out).mono ?_); (case side1 => repeat (first | exact HR0.out | (with_reducible refine Kd.C_alloc ?_ _) | (with_reducible refine Kd.C_drewN ?_ _) | (with_reducible refine Kd.C_drew ?_))); (case side2 => exact HC0.out); rintro e w11 ⟨v542, rfl, ho0, hb⟩; refine ⟨_, rfl, ?_⟩; have n0_ := Aside0.mk (Kd.R_lower ho0 (below_size (by repeat (first | (with_reducible first | exact HB.out | apply below_alloc | apply pw_below_drewN | apply below_drew1) | exact HB.out)))); have n1_ := Aside0.mk (below_step (by repeat (first | (with_reducible first | exact HB.out | apply below_alloc | apply pw_below_drewN | apply below_drew1) | exact HB.out)) hb); clear HB; have HO543 := n0_; have HB := n1_; clear n0_ n1_; (try clear hb); (try clear hb2); (try clear hk); (try clear hi); (try clear ho0); obtain ⟨Ao12, co12, eo12⟩ := Kd.R_slice HO543.out; subst eo12) | ((with_reducible refine gate_callee (f := 36) rfl ?_); refine goesL_ (some 25) rfl rfl Tryd.func36 (by kernel_rfl) rfl #[.slice Ao12 t540.length co12] rfl (by (try simp only [List.map_toArray, List.map_cons, List.map_nil]); first | done | rfl | (simp only [List.length_drop, List.length_take]; rfl)) ?_; (with_reducible refine (version_Split.calls k _ _ t540 t544 t547 t550 t553 t556 _ ?side1 ?side2 A9.out).mono ?_); (case side1 => repeat (first | exact (Kd.R_reads' HO543.out).2.2 | (with_reducible refine Kd.C_alloc ?_ _) | (with_reducible refine Kd.C_drewN ?_ _) | (with_reducible refine Kd.C_drew ?_))); (case side2 => exact (Kd.R_reads' HO543.out).2.1); rintro e w13 ⟨v545, v548, v551, v554, rfl, ho0, ho1, ho2, ho3, hb⟩; refine ⟨_, rfl, ?_⟩; have n0_ := Aside0.mk (Kd.R_mono (Kd.R_told (Kd.R_told (Kd.R_told (Kd.R_told (Kd.R_old (by (with_reducible repeat (first | apply Kd.R_alloc | apply Kd.R_drewN | apply Kd.R_drew)); exact HO543.out) hb) (Kd.R_base ho0)) (Kd.R_base ho1)) (Kd.R_base ho2)) (Kd.R_base ho3)) (fun _ h_ => h_.1)); have n1_ := Aside0.mk (Kd.R_lower (Kd.R_new' ho0 (Kd.R_lt (by (with_reducible repeat (first | apply Kd.R_alloc | apply Kd.R_drewN | apply Kd.R_drew)); exact HO543.out))) (below_size (by repeat (first | (with_reducible first | exact HB.out | apply below_alloc | apply pw_below_drewN | apply below_drew1) | exact HB.out)))); have n2_ := Aside0.mk (Kd.R_lower (Kd.R_new' ho1 (Kd.R_lt (by (with_reducible repeat (first | apply Kd.R_alloc | apply Kd.R_drewN | apply Kd.R_drew)); exact HO543.out))) (below_size (by repeat (first | (with_reducible first | exact HB.out | apply below_alloc | apply pw_below_drewN | apply below_drew1) | exact HB.out)))); have n3_ := Aside0.mk (Kd.R_lower (Kd.R_new' ho2 (Kd.R_lt (by (with_reducible repeat (first | apply Kd.R_alloc | apply Kd.R_drewN | apply Kd.R_drew)); exact HO543.out))) (below_size (by repeat (first | (with_reducible first | exact HB.out | apply below_alloc | apply pw_below_drewN | apply below_drew1) | exact HB.out)))); have n4_ := Aside0.mk (Kd.R_lower (Kd.R_new' ho3 (Kd.R_lt (by (with_reducible repeat (first | apply Kd.R_alloc | apply Kd.R_drewN | apply Kd.R_drew)); exact HO543.out))) (below_size (by repeat (first | (with_reducible first | exact HB.out | apply below_alloc | apply pw_below_drewN | apply below_drew1) | exact HB.out)))); have n5_ := Aside0.mk (below_step (by repeat (first | (with_reducible first | exact HB.out | apply below_alloc | apply pw_below_drewN | apply below_drew1) | exact HB.out)) hb); clear HO543; clear HB; have HO543 := n0_; have HO546 := n1_; have HO549 := n2_; have HO552 := n3_; have HO555 := n4_; have HB := n5_; clear n0_ n1_ n2_ n3_ n4_ n5_; (try clear hb); (try clear hb2); (try clear hk); (try clear hi); (try clear ho0); (try clear ho1); (try clear ho2); (try clear ho3)) | ((with_reducible refine gate_dst (N := 8) rfl ?_); refine box_event ?hg (N := 8) ?hd (cs := #[.slice none 0 0, .slice none 0 0, .slice none 0 0, .slice none 0 0]) (t := 63) ?hr ?_; (case hd => rfl); (case hg => rfl); (case hr => first | (go_simp; done) | (go_simp; rfl)); intro gb557 hg w14 hbox hb; have n0_ := Aside0.mk (Kd.R_below (by (with_reducible repeat (first | apply Kd.R_alloc | apply Kd.R_drewN | apply Kd.R_drew)); exact HO543.out) hb); have n1_ := Aside0.mk (Kd.R_below (by (with_reducible repeat (first | apply Kd.R_alloc | apply Kd.R_drewN | apply Kd.R_drew)); exact HO546.out) hb); have n2_ := Aside0.mk (Kd.R_below (by (with_reducible repeat (first | apply Kd.R_alloc | apply Kd.R_drewN | apply Kd.R_drew)); exact HO549.out) hb); have n3_ := Aside0.mk (Kd.R_below (by (with_reducible repeat (first | apply Kd.R_alloc | apply Kd.R_drewN | apply Kd.R_drew)); exact HO552.out) hb); have n4_ := Aside0.mk (Kd.R_below (by (with_reducible repeat (first | apply Kd.R_alloc | apply Kd.R_drewN | apply Kd.R_drew)); exact HO555.out) hb); have n5_ := Aside0.mk (below_step (by repeat (first | (with_reducible first | exact HB.out | apply below_alloc | apply pw_below_drewN | apply below_drew1) | exact HB.out)) hb); have n6_ := Aside0.mk (hbox); have n7_ := Aside0.mk ((by rw [hg]; exact (below_size (by repeat (first | (with_reducible first | exact HB.out | apply below_alloc | apply pw_below_drewN | apply below_drew1) | exact HB.out))) : w.heap.size ≤ gb557)); have n8_ := Aside0.mk ((by rw [hg]; exact (below_size (by repeat (first | (with_reducible first | exact HB.out | apply below_alloc | apply pw_below_drewN | apply below_drew1) | exact HB.out))) : w.heap.size ≤ gb557)); clear HO543; clear HO546; clear HO549; clear HO552; clear HO555; clear HB; have HO543 := n0_; have HO546 := n1_; have HO549 := n2_; have HO552 := n3_; have HO555 := n4_; have HB := n5_; have BK557 := n6_; have GW557 := n7_; have GE557 := n8_; clear n0_ n1_ n2_ n3_ n4_ n5_ n6_ n7_ n8_; clear hb hbox hg; obtain ⟨Ao15, co15, eo15⟩ := Kd.R_slice HO546.out; subst eo15; have hcz16_0 : w14.cell? ⟨gb557, 0, none⟩ = some (.slice none 0 0) := (blk_cell BK557.out 0).trans rfl; have hcz16_1 : w14.cell? ⟨gb557, 1, none⟩ = some (.slice none 0 0) := (blk_cell BK557.out 1).trans rfl; have hcz16_2 : w14.cell? ⟨gb557, 2, none⟩ = some (.slice none 0 0) := (blk_cell BK557.out 2).trans rfl; have hcz16_3 : w14.cell? ⟨gb557, 3, none⟩ = some (.slice none 0 0) := (blk_cell BK557.out 3).trans rfl; have hfz16_0 := blk_frozen BK557.out 0; have hfz16_1 := blk_frozen BK557.out 1; have hfz16_2 := blk_frozen BK557.out 2; have hfz16_3 := blk_frozen BK557.out 3; obtain ⟨Ao17, co17, eo17⟩ := Kd.R_slice HO549.out; subst eo17; obtain ⟨Ao18, co18, eo18⟩ := Kd.R_slice HO552.out; subst eo18; obtain ⟨Ao19, co19, eo19⟩ := Kd.R_slice HO555.out; subst eo19))
          go_ret2
          exact ⟨_, by first | rfl | (simp [errW_none, errW_some] <;> rfl) | (simp [*, errW_none, errW_some] <;> rfl), by (with_reducible repeat (first | apply Kd.R_alloc | apply Kd.R_drewN | apply Kd.R_drew)); exact Kd.R_mono (Kd.R_far (p := ⟨gb557, 3, none⟩) (Kd.R_far (p := ⟨gb557, 2, none⟩) (Kd.R_far (p := ⟨gb557, 1, none⟩) (Kd.R_far (p := ⟨gb557, 0, none⟩) (Kd.R_types HO546.out BK557.out (by decide)) (fun _ hk => hk.2) (.slice Ao15 t544.length co15)) (fun _ hk => hk.2) (.slice Ao17 t547.length co17)) (fun _ hk => hk.2) (.slice Ao18 t550.length co18)) (fun _ hk => hk.2) (.slice Ao19 t553.length co19)) (fun _ hk => trivial), by repeat (first | (with_reducible first | exact HB.out | apply below_alloc | apply pw_below_drewN | apply below_drew1 | refine below_set ?_ GE557.out) | exact HB.out)⟩
        · rw [if_neg c10] at H
          clear c10
          by_cases c20 : a1 = 1
          · rw [if_pos c20] at H
            subst c20
            simp only [Option.some.injEq, Prod.mk.injEq] at H
            obtain ⟨rfl, rfl⟩ := H
            go_enter Tryd.func21, Tryd.ntmps21
            go_wp2_with (first | ((with_reducible refine gate_callee (f := 28) rfl ?_); refine goesL_ (some 11) rfl rfl Tryd.func28 (by kernel_rfl) rfl #[.slice A0 l0.length c0] rfl (by (try simp only [List.map_toArray, List.map_cons, List.map_nil]); first | done | rfl | (simp only [List.length_drop, List.length_take]; rfl)) ?_; (with_reducible refine (conv_Code.calls k _ _ l0 t540 t541 _ ?side1 ?side2 A3.out).mono ?_); (case side1 => repeat (first | exact HR0.out | (with_reducible refine Kd.C_alloc ?_ _) | (with_reducible refine Kd.C_drewN ?_ _) | (with_reducible refine Kd.C_drew ?_))); (case side2 => exact HC0.out); rintro e w21 ⟨v542, rfl, ho0, hb⟩; refine ⟨_, rfl, ?_⟩; have n0_ := Aside0.mk (Kd.R_lower ho0 (below_size (by repeat (first | (with_reducible first | exact HB.out | apply below_alloc | apply pw_below_drewN | apply below_drew1) | exact HB.out)))); have n1_ := Aside0.mk (below_step (by repeat (first | (with_reducible first | exact HB.out | apply below_alloc | apply pw_below_drewN | apply below_drew1) | exact HB.out)) hb); clear HB; have HO543 := n0_; have HB := n1_; clear n0_ n1_; (try clear hb); (try clear hb2); (try clear hk); (try clear hi); (try clear ho0); obtain ⟨Ao22, co22, eo22⟩ := Kd.R_slice HO543.out; subst eo22) | ((with_reducible refine gate_callee (f := 36) rfl ?_); refine goesL_ (some 25) rfl rfl Tryd.func36 (by kernel_rfl) rfl #[.slice Ao22 t540.length co22] rfl (by (try simp only [List.map_toArray, List.map_cons, List.map_nil]); first | done | rfl | (simp only [List.length_drop, List.length_take]; rfl)) ?_; (with_reducible refine (version_Split.calls k _ _ t540 t544 t547 t550 t553 t556 _ ?side1 ?side2 A9.out).mono ?_); (case side1 => repeat (first | exact (Kd.R_reads' HO543.out).2.2 | (with_reducible refine Kd.C_alloc ?_ _) | (with_reducible refine Kd.C_drewN ?_ _) | (with_reducible refine Kd.C_drew ?_))); (case side2 => exact (Kd.R_reads' HO543.out).2.1); rintro e w23 ⟨v545, v548, v551, v554, rfl, ho0, ho1, ho2, ho3, hb⟩; refine ⟨_, rfl, ?_⟩; have n0_ := Aside0.mk (Kd.R_mono (Kd.R_told (Kd.R_told (Kd.R_told (Kd.R_told (Kd.R_old (by (with_reducible repeat (first | apply Kd.R_alloc | apply Kd.R_drewN | apply Kd.R_drew)); exact HO543.out) hb) (Kd.R_base ho0)) (Kd.R_base ho1)) (Kd.R_base ho2)) (Kd.R_base ho3)) (fun _ h_ => h_.1)); have n1_ := Aside0.mk (Kd.R_lower (Kd.R_new' ho0 (Kd.R_lt (by (with_reducible repeat (first | apply Kd.R_alloc | apply Kd.R_drewN | apply Kd.R_drew)); exact HO543.out))) (below_size (by repeat (first | (with_reducible first | exact HB.out | apply below_alloc | apply pw_below_drewN | apply below_drew1) | exact HB.out)))); have n2_ := Aside0.mk (Kd.R_lower (Kd.R_new' ho1 (Kd.R_lt (by (with_reducible repeat (first | apply Kd.R_alloc | apply Kd.R_drewN | apply Kd.R_drew)); exact HO543.out))) (below_size (by repeat (first | (with_reducible first | exact HB.out | apply below_alloc | apply pw_below_drewN | apply below_drew1) | exact HB.out)))); have n3_ := Aside0.mk (Kd.R_lower (Kd.R_new' ho2 (Kd.R_lt (by (with_reducible repeat (first | apply Kd.R_alloc | apply Kd.R_drewN | apply Kd.R_drew)); exact HO543.out))) (below_size (by repeat (first | (with_reducible first | exact HB.out | apply below_alloc | apply pw_below_drewN | apply below_drew1) | exact HB.out)))); have n4_ := Aside0.mk (Kd.R_lower (Kd.R_new' ho3 (Kd.R_lt (by (with_reducible repeat (first | apply Kd.R_alloc | apply Kd.R_drewN | apply Kd.R_drew)); exact HO543.out))) (below_size (by repeat (first | (with_reducible first | exact HB.out | apply below_alloc | apply pw_below_drewN | apply below_drew1) | exact HB.out)))); have n5_ := Aside0.mk (below_step (by repeat (first | (with_reducible first | exact HB.out | apply below_alloc | apply pw_below_drewN | apply below_drew1) | exact HB.out)) hb); clear HO543; clear HB; have HO543 := n0_; have HO546 := n1_; have HO549 := n2_; have HO552 := n3_; have HO555 := n4_; have HB := n5_; clear n0_ n1_ n2_ n3_ n4_ n5_; (try clear hb); (try clear hb2); (try clear hk); (try clear hi); (try clear ho0); (try clear ho1); (try clear ho2); (try clear ho3)) | ((with_reducible refine gate_dst (N := 8) rfl ?_); refine box_event ?hg (N := 8) ?hd (cs := #[.slice none 0 0, .slice none 0 0, .slice none 0 0, .slice none 0 0]) (t := 63) ?hr ?_; (case hd => rfl); (case hg => rfl); (case hr => first | (go_simp; done) | (go_simp; rfl)); intro gb557 hg w24 hbox hb; have n0_ := Aside0.mk (Kd.R_below (by (with_reducible repeat (first | apply Kd.R_alloc | apply Kd.R_drewN | apply Kd.R_drew)); exact HO543.out) hb); have n1_ := Aside0.mk (Kd.R_below (by (with_reducible repeat (first | apply Kd.R_alloc | apply Kd.R_drewN | apply Kd.R_drew)); exact HO546.out) hb); have n2_ := Aside0.mk (Kd.R_below (by (with_reducible repeat (first | apply Kd.R_alloc | apply Kd.R_drewN | apply Kd.R_drew)); exact HO549.out) hb); have n3_ := Aside0.mk (Kd.R_below (by (with_reducible repeat (first | apply Kd.R_alloc | apply Kd.R_drewN | apply Kd.R_drew)); exact HO552.out) hb); have n4_ := Aside0.mk (Kd.R_below (by (with_reducible repeat (first | apply Kd.R_alloc | apply Kd.R_drewN | apply Kd.R_drew)); exact HO555.out) hb); have n5_ := Aside0.mk (below_step (by repeat (first | (with_reducible first | exact HB.out | apply below_alloc | apply pw_below_drewN | apply below_drew1) | exact HB.out)) hb); have n6_ := Aside0.mk (hbox); have n7_ := Aside0.mk ((by rw [hg]; exact (below_size (by repeat (first | (with_reducible first | exact HB.out | apply below_alloc | apply pw_below_drewN | apply below_drew1) | exact HB.out))) : w.heap.size ≤ gb557)); have n8_ := Aside0.mk ((by rw [hg]; exact (below_size (by repeat (first | (with_reducible first | exact HB.out | apply below_alloc | apply pw_below_drewN | apply below_drew1) | exact HB.out))) : w.heap.size ≤ gb557)); clear HO543; clear HO546; clear HO549; clear HO552; clear HO555; clear HB; have HO543 := n0_; have HO546 := n1_; have HO549 := n2_; have HO552 := n3_; have HO555 := n4_; have HB := n5_; have BK557 := n6_; have GW557 := n7_; have GE557 := n8_; clear n0_ n1_ n2_ n3_ n4_ n5_ n6_ n7_ n8_; clear hb hbox hg; obtain ⟨Ao25, co25, eo25⟩ := Kd.R_slice HO546.out; subst eo25; have hcz26_0 : w24.cell? ⟨gb557, 0, none⟩ = some (.slice none 0 0) := (blk_cell BK557.out 0).trans rfl; have hcz26_1 : w24.cell? ⟨gb557, 1, none⟩ = some (.slice none 0 0) := (blk_cell BK557.out 1).trans rfl; have hcz26_2 : w24.cell? ⟨gb557, 2, none⟩ = some (.slice none 0 0) := (blk_cell BK557.out 2).trans rfl; have hcz26_3 : w24.cell? ⟨gb557, 3, none⟩ = some (.slice none 0 0) := (blk_cell BK557.out 3).trans rfl; have hfz26_0 := blk_frozen BK557.out 0; have hfz26_1 := blk_frozen BK557.out 1; have hfz26_2 := blk_frozen BK557.out 2; have hfz26_3 := blk_frozen BK557.out 3; obtain ⟨Ao27, co27, eo27⟩ := Kd.R_slice HO549.out; subst eo27; obtain ⟨Ao28, co28, eo28⟩ := Kd.R_slice HO552.out; subst eo28; obtain ⟨Ao29, co29, eo29⟩ := Kd.R_slice HO555.out; subst eo29))
            go_ret2
            exact ⟨_, by first | rfl | (simp [errW_none, errW_some] <;> rfl) | (simp [*, errW_none, errW_some] <;> rfl), by (with_reducible repeat (first | apply Kd.R_alloc | apply Kd.R_drewN | apply Kd.R_drew)); exact Kd.R_mono (Kd.R_far (p := ⟨gb557, 3, none⟩) (Kd.R_far (p := ⟨gb557, 2, none⟩) (Kd.R_far (p := ⟨gb557, 1, none⟩) (Kd.R_far (p := ⟨gb557, 0, none⟩) (Kd.R_types HO549.out BK557.out (by decide)) (fun _ hk => hk.2) (.slice Ao25 t544.length co25)) (fun _ hk => hk.2) (.slice Ao27 t547.length co27)) (fun _ hk => hk.2) (.slice Ao28 t550.length co28)) (fun _ hk => hk.2) (.slice Ao29 t553.length co29)) (fun _ hk => trivial), by repeat (first | (with_reducible first | exact HB.out | apply below_alloc | apply pw_below_drewN | apply below_drew1 | refine below_set ?_ GE557.out) | exact HB.out)⟩
          · rw [if_neg c20] at H
            clear c20
            by_cases c30 : a1 = 2
            · rw [if_pos c30] at H
              subst c30
              simp only [Option.some.injEq, Prod.mk.injEq] at H
              obtain ⟨rfl, rfl⟩ := H
              go_enter Tryd.func21, Tryd.ntmps21
              go_wp2_with (first | ((with_reducible refine gate_callee (f := 28) rfl ?_); refine goesL_ (some 11) rfl rfl Tryd.func28 (by kernel_rfl) rfl #[.slice A0 l0.length c0] rfl (by (try simp only [List.map_toArray, List.map_cons, List.map_nil]); first | done | rfl | (simp only [List.length_drop, List.length_take]; rfl)) ?_; (with_reducible refine (conv_Code.calls k _ _ l0 t540 t541 _ ?side1 ?side2 A3.out).mono ?_); (case side1 => repeat (first | exact HR0.out | (with_reducible refine Kd.C_alloc ?_ _) | (with_reducible refine Kd.C_drewN ?_ _) | (with_reducible refine Kd.C_drew ?_))); (case side2 => exact HC0.out); rintro e w31 ⟨v542, rfl, ho0, hb⟩; refine ⟨_, rfl, ?_⟩; have n0_ := Aside0.mk (Kd.R_lower ho0 (below_size (by repeat (first | (with_reducible first | exact HB.out | apply below_alloc | apply pw_below_drewN | apply below_drew1) | exact HB.out)))); have n1_ := Aside0.mk (below_step (by repeat (first | (with_reducible first | exact HB.out | apply below_alloc | apply pw_below_drewN | apply below_drew1) | exact HB.out)) hb); clear HB; have HO543 := n0_; have HB := n1_; clear n0_ n1_; (try clear hb); (try clear hb2); (try clear hk); (try clear hi); (try clear ho0); obtain ⟨Ao32, co32, eo32⟩ := Kd.R_slice HO543.out; subst eo32) | ((with_reducible refine gate_callee (f := 36) rfl ?_); refine goesL_ (some 25) rfl rfl Tryd.func36 (by kernel_rfl) rfl #[.slice Ao32 t540.length co32] rfl (by (try simp only [List.map_toArray, List.map_cons, List.map_nil]); first | done | rfl | (simp only [List.length_drop, List.length_take]; rfl)) ?_; (with_reducible refine (version_Split.calls k _ _ t540 t544 t547 t550 t553 t556 _ ?side1 ?side2 A9.out).mono ?_); (case side1 => repeat (first | exact (Kd.R_reads' HO543.out).2.2 | (with_reducible refine Kd.C_alloc ?_ _) | (with_reducible refine Kd.C_drewN ?_ _) | (with_reducible refine Kd.C_drew ?_))); (case side2 => exact (Kd.R_reads' HO543.out).2.1); rintro e w33 ⟨v545, v548, v551, v554, rfl, ho0, ho1, ho2, ho3, hb⟩; refine ⟨_, rfl, ?_⟩; have n0_ := Aside0.mk (Kd.R_mono (Kd.R_told (Kd.R_told (Kd.R_told (Kd.R_told (Kd.R_old (by (with_reducible repeat (first | apply Kd.R_alloc | apply Kd.R_drewN | apply Kd.R_drew)); exact HO543.out) hb) (Kd.R_base ho0)) (Kd.R_base ho1)) (Kd.R_base ho2)) (Kd.R_base ho3)) (fun _ h_ => h_.1)); have n1_ := Aside0.mk (Kd.R_lower (Kd.R_new' ho0 (Kd.R_lt (by (with_reducible repeat (first | apply Kd.R_alloc | apply Kd.R_drewN | apply Kd.R_drew)); exact HO543.out))) (below_size (by repeat (first | (with_reducible first | exact HB.out | apply below_alloc | apply pw_below_drewN | apply below_drew1) | exact HB.out)))); have n2_ := Aside0.mk (Kd.R_lower (Kd.R_new' ho1 (Kd.R_lt (by (with_reducible repeat (first | apply Kd.R_alloc | apply Kd.R_drewN | apply Kd.R_drew)); exact HO543.out))) (below_size (by repeat (first | (with_reducible first | exact HB.out | apply below_alloc | apply pw_below_drewN | apply below_drew1) | exact HB.out)))); have n3_ := Aside0.mk (Kd.R_lower (Kd.R_new' ho2 (Kd.R_lt (by (with_reducible repeat (first | apply Kd.R_alloc | apply Kd.R_drewN | apply Kd.R_drew)); exact HO543.out))) (below_size (by repeat (first | (with_reducible first | exact HB.out | apply below_alloc | apply pw_below_drewN | apply below_drew1) | exact HB.out)))); have n4_ := Aside0.mk (Kd.R_lower (Kd.R_new' ho3 (Kd.R_lt (by (with_reducible repeat (first | apply Kd.R_alloc | apply Kd.R_drewN | apply Kd.R_drew)); exact HO543.out))) (below_size (by repeat (first | (with_reducible first | exact HB.out | apply below_alloc | apply pw_below_drewN | apply below_drew1) | exact HB.out)))); have n5_ := Aside0.mk (below_step (by repeat (first | (with_reducible first | exact HB.out | apply below_alloc | apply pw_below_drewN | apply below_drew1) | exact HB.out)) hb); clear HO543; clear HB; have HO543 := n0_; have HO546 := n1_; have HO549 := n2_; have HO552 := n3_; have HO555 := n4_; have HB := n5_; clear n0_ n1_ n2_ n3_ n4_ n5_; (try clear hb); (try clear hb2); (try clear hk); (try clear hi); (try clear ho0); (try clear ho1); (try clear ho2); (try clear ho3)) | ((with_reducible refine gate_dst (N := 8) rfl ?_); refine box_event ?hg (N := 8) ?hd (cs := #[.slice none 0 0, .slice none 0 0, .slice none 0 0, .slice none 0 0]) (t := 63) ?hr ?_; (case hd => rfl); (case hg => rfl); (case hr => first | (go_simp; done) | (go_simp; rfl)); intro gb557 hg w34 hbox hb; have n0_ := Aside0.mk (Kd.R_below (by (with_reducible repeat (first | apply Kd.R_alloc | apply Kd.R_drewN | apply Kd.R_drew)); exact HO543.out) hb); have n1_ := Aside0.mk (Kd.R_below (by (with_reducible repeat (first | apply Kd.R_alloc | apply Kd.R_drewN | apply Kd.R_drew)); exact HO546.out) hb); have n2_ := Aside0.mk (Kd.R_below (by (with_reducible repeat (first | apply Kd.R_alloc | apply Kd.R_drewN | apply Kd.R_drew)); exact HO549.out) hb); have n3_ := Aside0.mk (Kd.R_below (by (with_reducible repeat (first | apply Kd.R_alloc | apply Kd.R_drewN | apply Kd.R_drew)); exact HO552.out) hb); have n4_ := Aside0.mk (Kd.R_below (by (with_reducible repeat (first | apply Kd.R_alloc | apply Kd.R_drewN | apply Kd.R_drew)); exact HO555.out) hb); have n5_ := Aside0.mk (below_step (by repeat (first | (with_reducible first | exact HB.out | apply below_alloc | apply pw_below_drewN | apply below_drew1) | exact HB.out)) hb); have n6_ := Aside0.mk (hbox); have n7_ := Aside0.mk ((by rw [hg]; exact (below_size (by repeat (first | (with_reducible first | exact HB.out | apply below_alloc | apply pw_below_drewN | apply below_drew1) | exact HB.out))) : w.heap.size ≤ gb557)); have n8_ := Aside0.mk ((by rw [hg]; exact (below_size (by repeat (first | (with_reducible first | exact HB.out | apply below_alloc | apply pw_below_drewN | apply below_drew1) | exact HB.out))) : w.heap.size ≤ gb557)); clear HO543; clear HO546; clear HO549; clear HO552; clear HO555; clear HB; have HO543 := n0_; have HO546 := n1_; have HO549 := n2_; have HO552 := n3_; have HO555 := n4_; have HB := n5_; have BK557 := n6_; have GW557 := n7_; have GE557 := n8_; clear n0_ n1_ n2_ n3_ n4_ n5_ n6_ n7_ n8_; clear hb hbox hg; obtain ⟨Ao35, co35, eo35⟩ := Kd.R_slice HO546.out; subst eo35; have hcz36_0 : w34.cell? ⟨gb557, 0, none⟩ = some (.slice none 0 0) := (blk_cell BK557.out 0).trans rfl; have hcz36_1 : w34.cell? ⟨gb557, 1, none⟩ = some (.slice none 0 0) := (blk_cell BK557.out 1).trans rfl; have hcz36_2 : w34.cell? ⟨gb557, 2, none⟩ = some (.slice none 0 0) := (blk_cell BK557.out 2).trans rfl; have hcz36_3 : w34.cell? ⟨gb557, 3, none⟩ = some (.slice none 0 0) := (blk_cell BK557.out 3).trans rfl; have hfz36_0 := blk_frozen BK557.out 0; have hfz36_1 := blk_frozen BK557.out 1; have hfz36_2 := blk_frozen BK557.out 2; have hfz36_3 := blk_frozen BK557.out 3; obtain ⟨Ao37, co37, eo37⟩ := Kd.R_slice HO549.out; subst eo37; obtain ⟨Ao38, co38, eo38⟩ := Kd.R_slice HO552.out; subst eo38; obtain ⟨Ao39, co39, eo39⟩ := Kd.R_slice HO555.out; subst eo39))
              go_ret2
              exact ⟨_, by first | rfl | (simp [errW_none, errW_some] <;> rfl) | (simp [*, errW_none, errW_some] <;> rfl), by (with_reducible repeat (first | apply Kd.R_alloc | apply Kd.R_drewN | apply Kd.R_drew)); exact Kd.R_mono (Kd.R_far (p := ⟨gb557, 3, none⟩) (Kd.R_far (p := ⟨gb557, 2, none⟩) (Kd.R_far (p := ⟨gb557, 1, none⟩) (Kd.R_far (p := ⟨gb557, 0, none⟩) (Kd.R_types HO552.out BK557.out (by decide)) (fun _ hk => hk.2) (.slice Ao35 t544.length co35)) (fun _ hk => hk.2) (.slice Ao37 t547.length co37)) (fun _ hk => hk.2) (.slice Ao38 t550.length co38)) (fun _ hk => hk.2) (.slice Ao39 t553.length co39)) (fun _ hk => trivial), by repeat (first | (with_reducible first | exact HB.out | apply below_alloc | apply pw_below_drewN | apply below_drew1 | refine below_set ?_ GE557.out) | exact HB.out)⟩
            · rw [if_neg c30] at H
              clear c30
              by_cases c40 : a1 = 3
              · rw [if_pos c40] at H
                subst c40
                simp only [Option.some.injEq, Prod.mk.injEq] at H
                obtain ⟨rfl, rfl⟩ := H
                go_enter Tryd.func21, Tryd.ntmps21
                go_wp2_with (first | ((with_reducible refine gate_callee (f := 28) rfl ?_); refine goesL_ (some 11) rfl rfl Tryd.func28 (by kernel_rfl) rfl #[.slice A0 l0.length c0] rfl (by (try simp only [List.map_toArray, List.map_cons, List.map_nil]); first | done | rfl | (simp only [List.length_drop, List.length_take]; rfl)) ?_; (with_reducible refine (conv_Code.calls k _ _ l0 t540 t541 _ ?side1 ?side2 A3.out).mono ?_); (case side1 => repeat (first | exact HR0.out | (with_reducible refine Kd.C_alloc ?_ _) | (with_reducible refine Kd.C_drewN ?_ _) | (with_reducible refine Kd.C_drew ?_))); (case side2 => exact HC0.out); rintro e w41 ⟨v542, rfl, ho0, hb⟩; refine ⟨_, rfl, ?_⟩; have n0_ := Aside0.mk (Kd.R_lower ho0 (below_size (by repeat (first | (with_reducible first | exact HB.out | apply below_alloc | apply pw_below_drewN | apply below_drew1) | exact HB.out)))); have n1_ := Aside0.mk (below_step (by repeat (first | (with_reducible first | exact HB.out | apply below_alloc | apply pw_below_drewN | apply below_drew1) | exact HB.out)) hb); clear HB; have HO543 := n0_; have HB := n1_; clear n0_ n1_; (try clear hb); (try clear hb2); (try clear hk); (try clear hi); (try clear ho0); obtain ⟨Ao42, co42, eo42⟩ := Kd.R_slice HO543.out; subst eo42) | ((with_reducible refine gate_callee (f := 36) rfl ?_); refine goesL_ (some 25) rfl rfl Tryd.func36 (by kernel_rfl) rfl #[.slice Ao42 t540.length co42] rfl (by (try simp only [List.map_toArray, List.map_cons, List.map_nil]); first | done | rfl | (simp only [List.length_drop, List.length_take]; rfl)) ?_; (with_reducible refine (version_Split.calls k _ _ t540 t544 t547 t550 t553 t556 _ ?side1 ?side2 A9.out).mono ?_); (case side1 => repeat (first | exact (Kd.R_reads' HO543.out).2.2 | (with_reducible refine Kd.C_alloc ?_ _) | (with_reducible refine Kd.C_drewN ?_ _) | (with_reducible refine Kd.C_drew ?_))); (case side2 => exact (Kd.R_reads' HO543.out).2.1); rintro e w43 ⟨v545, v548, v551, v554, rfl, ho0, ho1, ho2, ho3, hb⟩; refine ⟨_, rfl, ?_⟩; have n0_ := Aside0.mk (Kd.R_mono (Kd.R_told (Kd.R_told (Kd.R_told (Kd.R_told (Kd.R_old (by (with_reducible repeat (first | apply Kd.R_alloc | apply Kd.R_drewN | apply Kd.R_drew)); exact HO543.out) hb) (Kd.R_base ho0)) (Kd.R_base ho1)) (Kd.R_base ho2)) (Kd.R_base ho3)) (fun _ h_ => h_.1)); have n1_ := Aside0.mk (Kd.R_lower (Kd.R_new' ho0 (Kd.R_lt (by (with_reducible repeat (first | apply Kd.R_alloc | apply Kd.R_drewN | apply Kd.R_drew)); exact HO543.out))) (below_size (by repeat (first | (with_reducible first | exact HB.out | apply below_alloc | apply pw_below_drewN | apply below_drew1) | exact HB.out)))); have n2_ := Aside0.mk (Kd.R_lower (Kd.R_new' ho1 (Kd.R_lt (by (with_reducible repeat (first | apply Kd.R_alloc | apply Kd.R_drewN | apply Kd.R_drew)); exact HO543.out))) (below_size (by repeat (first | (with_reducible first | exact HB.out | apply below_alloc | apply pw_below_drewN | apply below_drew1) | exact HB.out)))); have n3_ := Aside0.mk (Kd.R_lower (Kd.R_new' ho2 (Kd.R_lt (by (with_reducible repeat (first | apply Kd.R_alloc | apply Kd.R_drewN | apply Kd.R_drew)); exact HO543.out))) (below_size (by repeat (first | (with_reducible first | exact HB.out | apply below_alloc | apply pw_below_drewN | apply below_drew1) | exact HB.out)))); have n4_ := Aside0.mk (Kd.R_lower (Kd.R_new' ho3 (Kd.R_lt (by (with_reducible repeat (first | apply Kd.R_alloc | apply Kd.R_drewN | apply Kd.R_drew)); exact HO543.out))) (below_size (by repeat (first | (with_reducible first | exact HB.out | apply below_alloc | apply pw_below_drewN | apply below_drew1) | exact HB.out)))); have n5_ := Aside0.mk (below_step (by repeat (first | (with_reducible first | exact HB.out | apply below_alloc | apply pw_below_drewN | apply below_drew1) | exact HB.out)) hb); clear HO543; clear HB; have HO543 := n0_; have HO546 := n1_; have HO549 := n2_; have HO552 := n3_; have HO555 := n4_; have HB := n5_; clear n0_ n1_ n2_ n3_ n4_ n5_; (try clear hb); (try clear hb2); (try clear hk); (try clear hi); (try clear ho0); (try clear ho1); (try clear ho2); (try clear ho3)) | ((with_reducible refine gate_dst (N := 8) rfl ?_); refine box_event ?hg (N := 8) ?hd (cs := #[.slice none 0 0, .slice none 0 0, .slice none 0 0, .slice none 0 0]) (t := 63) ?hr ?_; (case hd => rfl); (case hg => rfl); (case hr => first | (go_simp; done) | (go_simp; rfl)); intro gb557 hg w44 hbox hb; have n0_ := Aside0.mk (Kd.R_below (by (with_reducible repeat (first | apply Kd.R_alloc | apply Kd.R_drewN | apply Kd.R_drew)); exact HO543.out) hb); have n1_ := Aside0.mk (Kd.R_below (by (with_reducible repeat (first | apply Kd.R_alloc | apply Kd.R_drewN | apply Kd.R_drew)); exact HO546.out) hb); have n2_ := Aside0.mk (Kd.R_below (by (with_reducible repeat (first | apply Kd.R_alloc | apply Kd.R_drewN | apply Kd.R_drew)); exact HO549.out) hb); have n3_ := Aside0.mk (Kd.R_below (by (with_reducible repeat (first | apply Kd.R_alloc | apply Kd.R_drewN | apply Kd.R_drew)); exact HO552.out) hb); have n4_ := Aside0.mk (Kd.R_below (by (with_reducible repeat (first | apply Kd.R_alloc | apply Kd.R_drewN | apply Kd.R_drew)); exact HO555.out) hb); have n5_ := Aside0.mk (below_step (by repeat (first | (with_reducible first | exact HB.out | apply below_alloc | apply pw_below_drewN | apply below_drew1) | exact HB.out)) hb); have n6_ := Aside0.mk (hbox); have n7_ := Aside0.mk ((by rw [hg]; exact (below_size (by repeat (first | (with_reducible first | exact HB.out | apply below_alloc | apply pw_below_drewN | apply below_drew1) | exact HB.out))) : w.heap.size ≤ gb557)); have n8_ := Aside0.mk ((by rw [hg]; exact (below_size (by repeat (first | (with_reducible first | exact HB.out | apply below_alloc | apply pw_below_drewN | apply below_drew1) | exact HB.out))) : w.heap.size ≤ gb557)); clear HO543; clear HO546; clear HO549; clear HO552; clear HO555; clear HB; have HO543 := n0_; have HO546 := n1_; have HO549 := n2_; have HO552 := n3_; have HO555 := n4_; have HB := n5_; have BK557 := n6_; have GW557 := n7_; have GE557 := n8_; clear n0_ n1_ n2_ n3_ n4_ n5_ n6_ n7_ n8_; clear hb hbox hg; obtain ⟨Ao45, co45, eo45⟩ := Kd.R_slice HO546.out; subst eo45; have hcz46_0 : w44.cell? ⟨gb557, 0, none⟩ = some (.slice none 0 0) := (blk_cell BK557.out 0).trans rfl; have hcz46_1 : w44.cell? ⟨gb557, 1, none⟩ = some (.slice none 0 0) := (blk_cell BK557.out 1).trans rfl; have hcz46_2 : w44.cell? ⟨gb557, 2, none⟩ = some (.slice none 0 0) := (blk_cell BK557.out 2).trans rfl; have hcz46_3 : w44.cell? ⟨gb557, 3, none⟩ = some (.slice none 0 0) := (blk_cell BK557.out 3).trans rfl; have hfz46_0 := blk_frozen BK557.out 0; have hfz46_1 := blk_frozen BK557.out 1; have hfz46_2 := blk_frozen BK557.out 2; have hfz46_3 := blk_frozen BK557.out 3; obtain ⟨Ao47, co47, eo47⟩ := Kd.R_slice HO549.out; subst eo47; obtain ⟨Ao48, co48, eo48⟩ := Kd.R_slice HO552.out; subst eo48; obtain ⟨Ao49, co49, eo49⟩ := Kd.R_slice HO555.out; subst eo49))
                go_ret2
                exact ⟨_, by first | rfl | (simp [errW_none, errW_some] <;> rfl) | (simp [*, errW_none, errW_some] <;> rfl), by (with_reducible repeat (first | apply Kd.R_alloc | apply Kd.R_drewN | apply Kd.R_drew)); exact Kd.R_mono (Kd.R_far (p := ⟨gb557, 3, none⟩) (Kd.R_far (p := ⟨gb557, 2, none⟩) (Kd.R_far (p := ⟨gb557, 1, none⟩) (Kd.R_far (p := ⟨gb557, 0, none⟩) (Kd.R_types HO555.out BK557.out (by decide)) (fun _ hk => hk.2) (.slice Ao45 t544.length co45)) (fun _ hk => hk.2) (.slice Ao47 t547.length co47)) (fun _ hk => hk.2) (.slice Ao48 t550.length co48)) (fun _ hk => hk.2) (.slice Ao49 t553.length co49)) (fun _ hk => trivial), by repeat (first | (with_reducible first | exact HB.out | apply below_alloc | apply pw_below_drewN | apply below_drew1 | refine below_set ?_ GE557.out) | exact HB.out)⟩
              · rw [if_neg c40] at H
                clear c40
                exact absurd H (by simp)
  · rw [if_neg c4] at H
    have c4b0 : (t541 == 0) = false := beq_eq_false_iff_ne.mpr c4
    have c4b1 : (t541 != 0) = true := bne_iff_ne.mpr c4
    simp only [Option.some.injEq, Prod.mk.injEq] at H
    obtain ⟨rfl, rfl⟩ := H
    go_enter Tryd.func21, Tryd.ntmps21
    go_wp2_with (first | ((with_reducible refine gate_callee (f := 28) rfl ?_); refine goesL_ (some 11) rfl rfl Tryd.func28 (by kernel_rfl) rfl #[.slice A0 l0.length c0] rfl (by (try simp only [List.map_toArray, List.map_cons, List.map_nil]); first | done | rfl | (simp only [List.length_drop, List.length_take]; rfl)) ?_; (with_reducible refine (conv_Code.calls k _ _ l0 t540 t541 _ ?side1 ?side2 A3.out).mono ?_); (case side1 => repeat (first | exact HR0.out | (with_reducible refine Kd.C_alloc ?_ _) | (with_reducible refine Kd.C_drewN ?_ _) | (with_reducible refine Kd.C_drew ?_))); (case side2 => exact HC0.out); rintro e w50 ⟨v542, rfl, ho0, hb⟩; refine ⟨_, rfl, ?_⟩; have n0_ := Aside0.mk (Kd.R_lower ho0 (below_size (by repeat (first | (with_reducible first | exact HB.out | apply below_alloc | apply pw_below_drewN | apply below_drew1) | exact HB.out)))); have n1_ := Aside0.mk (below_step (by repeat (first | (with_reducible first | exact HB.out | apply below_alloc | apply pw_below_drewN | apply below_drew1) | exact HB.out)) hb); clear HB; have HO543 := n0_; have HB := n1_; clear n0_ n1_; (try clear hb); (try clear hb2); (try clear hk); (try clear hi); (try clear ho0)))
    go_ret2
    exact ⟨_, by first | rfl | (simp [errW_none, errW_some] <;> rfl) | (simp [*, errW_none, errW_some] <;> rfl), by first | exact Kd.R_nil _ _ _ _ _ | exact Kd.N_nil _ _ _ _ _ | exact Kd.V_nil _ _ _ _ _ | exact Kd.Q_nil _ _ _ _ _ | exact Kd.S_nil _ _ _ _ _, by repeat (first | (with_reducible first | exact HB.out | apply below_alloc | apply pw_below_drewN | apply below_drew1) | exact HB.out)⟩

end Go.Proofs.YtmajbcglpcagoaaDoor.X

-- YtmajbcglpcagoaaDoorX49
namespace Go.Proofs.YtmajbcglpcagoaaDoor.X
open Go.RowKit Go.Proofs.YtmajbcglpcagoaaDoorW.PrintWords Go.Proofs.YtmajbcglpcagoaaDoorW.PrintLast Go.Proofs.YtmajbcglpcagoaaDoorW.PrintMore
attribute [local go_sem] max2_int min2_int max_two min_two max_three min_three max_four min_four   -- for this text's walks alone
set_option linter.unusedVariables false
set_option linter.unusedSimpArgs false

/-! ### shuttleref01_Few: function 24 -/
def shuttleref01_Few.l0 : Nat → List Int → Int → List Int → Int → Option (List Int)
  | 0, _, _, _, _ => none
  | k + 1, x0, x1, x5, x6 => if x6 < (x0.length : Int) then (if x6 < x1 then (if 0 ≤ x6 then (if x5.length < 140737488355328 then (shuttleref01_Few.l0 k x0 x1 (x5 ++ [Int.tmod (rd x0 x6) 2]) (wrap64 (x6 + 1))) else (none)) else (none)) else (some x5)) else (some x5)
def shuttleref01_Few.f (k : Nat) (l0 : List Int) (a1 : Int) : Option (List Int) := shuttleref01_Few.l0 k l0 a1 ([] : List Int) 0
theorem shuttleref01_Few.mono_l : ∀ k, (∀ y0 y1 y2 y3, LeO (shuttleref01_Few.l0 k y0 y1 y2 y3) (shuttleref01_Few.l0 (k + 1) y0 y1 y2 y3))
  | 0 => fun _ _ _ _ r h => by simp [shuttleref01_Few.l0] at h
  | k + 1 => by
    have ih0 := shuttleref01_Few.mono_l k
    · intro y0 y1 y2 y3
      unfold shuttleref01_Few.l0
      repeat' first
      | (with_reducible exact ih0 _ _ _ _)
      | (with_reducible exact LeO.refl _)
      | (with_reducible exact LeO.none _)
      | (with_reducible refine LeO.ite ?_ ?_)
      | (with_reducible refine LeO.bind ?_ (fun _ => ?_))
      | exact ih0 _ _ _ _
      | exact LeO.none _
      | refine LeO.ite ?_ ?_
      | refine LeO.bind ?_ (fun _ => ?_)
theorem shuttleref01_Few.mono : ∀ a0 a1 k, LeO (shuttleref01_Few.f k a0 a1) (shuttleref01_Few.f (k + 1) a0 a1) := by
  intro a0 a1 k
  have ih0 := shuttleref01_Few.mono_l k
  unfold shuttleref01_Few.f
  repeat' first
      | (with_reducible exact ih0 _ _ _ _)
      | (with_reducible exact LeO.refl _)
      | (with_reducible exact LeO.none _)
      | (with_reducible refine LeO.ite ?_ ?_)
      | (with_reducible refine LeO.bind ?_ (fun _ => ?_))
      | exact ih0 _ _ _ _
      | exact LeO.none _
      | refine LeO.ite ?_ ?_
      | refine LeO.bind ?_ (fun _ => ?_)
set_option maxHeartbeats 8000000 in
set_option maxRecDepth 100000 in
theorem shuttleref01_Few.calls (k : Nat) (A0 : Option Addr) (c0 : Nat) (l0 : List Int) (a1 : Int) (r : List Int) (w : World) (hr0 : Kd.C (Kd.int .u8) w A0 l0.length l0) (hc0 : l0.length ≤ c0) (h : shuttleref01_Few.f k l0 a1 = some r) :
    Calls Tryd.prog 24 #[.slice A0 l0.length c0, .int .i64 a1] w fun e w' => ∃ v0_ : Value, e = .returned (v0_) ∧ Kd.R (Kd.int .u8) 5 w' w.heap.size (fun _ => True) v0_ r ∧ Below w.heap.size w w' := by
  have HR0 := Aside0.mk hr0
  have HC0 := Aside0.mk hc0
  clear hr0 hc0
  have HB := Aside0.mk (Below.refl w.heap.size w)
  have H : (shuttleref01_Few.l0 k l0 a1 ([] : List Int) 0) = some r := h
  clear h
  have H' := Aside0.mk H
  clear H
  go_enter Tryd.func24, Tryd.ntmps24
  go_wp2
  go_loopg [5, 6] k (fun kq v5 v6 w' => ∃ (x5_1 : List Int) (x6_1 : Int), v6 = .int .i64 x6_1 ∧ Aside0 (shuttleref01_Few.l0 kq l0 a1 x5_1 x6_1 = some r) ∧ Aside0 (kq ≤ k) ∧ Aside0 (Kd.R (Kd.int .u8) 5 w' w.heap.size (fun _ => True) v5 x5_1) ∧ Aside0 (Below w.heap.size w w'))
  case atStart => exact ⟨(([] : List Int)), (0), (by first | rfl | (simp; done) | (simp [*]; done)), H', ⟨Nat.le_refl _⟩, ⟨by first | exact Kd.R_nil _ _ _ _ _ | exact Kd.N_nil _ _ _ _ _ | exact Kd.V_nil _ _ _ _ _ | exact Kd.Q_nil _ _ _ _ _ | exact Kd.S_nil _ _ _ _ _⟩, ⟨by repeat (first | (with_reducible first | exact HB.out | apply below_alloc | apply pw_below_drewN | apply below_drew1) | exact HB.out)⟩⟩
  case round =>
    clear H'
    try clear c2
    try clear p2
    obtain ⟨x5_1, x6_1, rfl, HA, HK1, HO_5, HB⟩ := hrel
    cases gk with
    | zero => exact absurd HA.out (by simp [shuttleref01_Few.l0])
    | succ k1 =>
      have H := HA.out
      clear HA
      simp only [shuttleref01_Few.l0] at H
      by_cases c3 : x6_1 < (l0.length : Int)
      · rw [if_pos c3] at H
        have c3b0 : decide (x6_1 < (l0.length : Int)) = true := decide_eq_true c3
        clear c3
        by_cases c4 : x6_1 < a1
        · rw [if_pos c4] at H
          have c4b0 : decide (x6_1 < a1) = true := decide_eq_true c4
          clear c4
          by_cases c5 : 0 ≤ x6_1
          · rw [if_pos c5] at H
            have c5b0 : decide (0 ≤ x6_1) = true := decide_eq_true c5
            clear c5
            by_cases c6 : x5_1.length < 140737488355328
            · rw [if_pos c6] at H
              have LMc6 := Aside0.mk c6
              clear c6
              obtain ⟨y588, hy588⟩ : ∃ y_ : List Int, y_ = (x5_1 ++ [Int.tmod (rd l0 x6_1) 2]) := ⟨_, rfl⟩
              replace H : (shuttleref01_Few.l0 k1 l0 a1 y588 (wrap64 (x6_1 + 1))) = some r := by first | (rw [hy588]; with_reducible exact H) | (have H2_ := (Option.bind_some _ _).symm.trans H; rw [hy588]; with_reducible exact H2_) | (have H2_ := (Option.bind_some _ _).symm.trans H; with_reducible exact H2_) | with_reducible exact H | (rw [hy588]; exact H) | exact H
              have Ny588 := Aside0.mk hy588
              clear hy588
              have H' := Aside0.mk H
              clear H
              have p587 : 0 ≤ (x6_1 : Int) := of_decide_eq_true (by first | (with_reducible assumption) | assumption)
              have q587 : x6_1 < (l0.length : Int) := of_decide_eq_true (by first | (with_reducible assumption) | assumption)
              obtain ⟨ad587, e587, hx587_0⟩ := Kd.at_int HR0.out x6_1 p587 q587
              cases e587
              replace hx587_0 := (HB.out.cell (World.block_lt_of_cell? w _ hx587_0)).trans hx587_0
              replace p587 := eq_true p587
              replace q587 := eq_true q587
              go_wp2_with (first | ((with_reducible refine gate_builtin (b := .append) (xs := #[.tmp 18, .tmp 24]) rfl ?_); at_builtin; refine Kd.R_append (Kd.int .u8) (w0 := w) w.heap.size rfl (.tmp 18) (.tmp 24) 35 5 (.int .u8 0) 1 rfl Tryd.underlying35 info5 rfl (by decide) (by omega) u5 x5_1 (Int.tmod (rd l0 x6_1) 2) [.int .u8 (Int.tmod (rd l0 x6_1) 2)] (fun _ => True) (fun _ => False) rfl rfl ?aP (fun _ hk => hk.elim) ?aF ?aO ?aB ?aS ?aL ?_; (case aP => exact rfl); (case aB => exact (by repeat (first | (with_reducible first | exact HB.out | apply below_alloc | apply pw_below_drewN | apply below_drew1) | exact HB.out))); (case aF => exact (fun _ _ => trivial)); (case aO => exact (by (with_reducible repeat (first | apply Kd.R_alloc | apply Kd.R_drewN | apply Kd.R_drew)); exact HO_5.out)); (case aS => exact (below_size (by repeat (first | (with_reducible first | exact HB.out | apply below_alloc | apply pw_below_drewN | apply below_drew1) | exact HB.out)))); (case aL => have := LMc6.out; omega); intro v589 w7 ho hb hg hat; rw [← Ny588.out] at ho; have n0_ := Aside0.mk (hb); have n1_ := Aside0.mk (ho); clear HB; clear HO_5; have HB := n0_; have HO590 := n1_; clear n0_ n1_; clear ho hb hg hat))
              go_roundg k1
              case measure => have := HK1.out; omega
              case rel => exact ⟨(y588), (wrap64 (x6_1 + 1)), (by first | rfl | (simp; done) | (simp [*]; done)), H', ⟨by have := HK1.out; omega⟩, ⟨by (with_reducible repeat (first | apply Kd.R_alloc | apply Kd.R_drewN | apply Kd.R_drew)); exact HO590.out⟩, ⟨by repeat (first | (with_reducible first | exact HB.out | apply below_alloc | apply pw_below_drewN | apply below_drew1) | exact HB.out)⟩⟩
            · rw [if_neg c6] at H
              exact absurd H (by simp)
          · rw [if_neg c5] at H
            exact absurd H (by simp)
        · rw [if_neg c4] at H
          have c4b0 : decide (x6_1 < a1) = false := decide_eq_false c4
          clear c4
          obtain rfl := Option.some.inj H
          go_wp2
          go_ret
          exact ⟨_, by first | rfl | (simp [errW_none, errW_some] <;> rfl) | (simp [*, errW_none, errW_some] <;> rfl), by (with_reducible repeat (first | apply Kd.R_alloc | apply Kd.R_drewN | apply Kd.R_drew)); exact HO_5.out, by repeat (first | (with_reducible first | exact HB.out | apply below_alloc | apply pw_below_drewN | apply below_drew1) | exact HB.out)⟩
      · rw [if_neg c3] at H
        have c3b0 : decide (x6_1 < (l0.length : Int)) = false := decide_eq_false c3
        clear c3
        obtain rfl := Option.some.inj H
        go_wp2
        go_ret
        exact ⟨_, by first | rfl | (simp [errW_none, errW_some] <;> rfl) | (simp [*, errW_none, errW_some] <;> rfl), by (with_reducible repeat (first | apply Kd.R_alloc | apply Kd.R_drewN | apply Kd.R_drew)); exact HO_5.out, by repeat (first | (with_reducible first | exact HB.out | apply below_alloc | apply pw_below_drewN | apply below_drew1) | exact HB.out)⟩

end Go.Proofs.YtmajbcglpcagoaaDoor.X

-- YtmajbcglpcagoaaDoorX50
namespace Go.Proofs.YtmajbcglpcagoaaDoor.X
open Go.RowKit Go.Proofs.YtmajbcglpcagoaaDoorW.PrintWords Go.Proofs.YtmajbcglpcagoaaDoorW.PrintLast Go.Proofs.YtmajbcglpcagoaaDoorW.PrintMore
attribute [local go_sem] max2_int min2_int max_two min_two max_three min_three max_four min_four   -- for this text's walks alone
set_option linter.unusedVariables false
set_option linter.unusedSimpArgs false

/-! ### shuttlelaw11_VersionTurned: function 8 -/
def shuttlelaw11_VersionTurned.f (k : Nat) (l0 : List Int) (a1 : Int) (a2 : Int) : Option (Bool) := (shuttleref01_Few.f k l0 40).bind fun t591 => ((version_Code.f k t591 (wrap64 (Int.tmod (IntKind.u64.wrap (a1)) 4))).bind fun bt594 => ((shuttlelaw11_splits.f k).bind fun t598 => (if t598 = true then (if bt594.2 = 0 then (if (bt594.1.length : Int) < 6 then (some false) else (if (IntKind.u64.wrap ((bt594.1.length : Int))) = 0 then (none) else (if 0 ≤ (wrap64 (Int.tmod (IntKind.u64.wrap (a2)) (IntKind.u64.wrap ((bt594.1.length : Int))))) then (if (wrap64 (Int.tmod (IntKind.u64.wrap (a2)) (IntKind.u64.wrap ((bt594.1.length : Int))))) < (bt594.1.length : Int) then ((version_Alone.f k (bt594.1.set ((wrap64 (Int.tmod (IntKind.u64.wrap (a2)) (IntKind.u64.wrap ((bt594.1.length : Int))))) : Int).toNat (Go.bits .xor .u8 (rd bt594.1 (wrap64 (Int.tmod (IntKind.u64.wrap (a2)) (IntKind.u64.wrap ((bt594.1.length : Int)))))) 1)) (wrap64 (Int.tmod (IntKind.u64.wrap (a1)) 4))).bind fun bt601 => (if bt601.2 = 13 then (if (bt601.1.length : Int) = 0 then (some true) else (if bt601.2 = 0 then (some ((strOfNums bt601.1).toList != (strOfNums t591).toList)) else (some false))) else (if bt601.2 = 0 then (some ((strOfNums bt601.1).toList != (strOfNums t591).toList)) else (some false)))) else (none)) else (none)))) else (some false)) else (some false))))
theorem shuttlelaw11_VersionTurned.mono : ∀ a0 a1 a2 k, LeO (shuttlelaw11_VersionTurned.f k a0 a1 a2) (shuttlelaw11_VersionTurned.f (k + 1) a0 a1 a2) := by
  intro a0 a1 a2 k
  unfold shuttlelaw11_VersionTurned.f
  repeat' first
      | (with_reducible exact shuttlelaw11_splits.mono _)
      | (with_reducible exact shuttleref01_Few.mono _ _ _)
      | (with_reducible exact version_Alone.mono _ _ _)
      | (with_reducible exact version_Code.mono _ _ _)
      | (with_reducible exact LeO.refl _)
      | (with_reducible exact LeO.none _)
      | (with_reducible refine LeO.ite ?_ ?_)
      | (with_reducible refine LeO.bind ?_ (fun _ => ?_))
      | exact shuttlelaw11_splits.mono _
      | exact shuttleref01_Few.mono _ _ _
      | exact version_Alone.mono _ _ _
      | exact version_Code.mono _ _ _
      | exact LeO.none _
      | refine LeO.ite ?_ ?_
      | refine LeO.bind ?_ (fun _ => ?_)
set_option maxHeartbeats 8000000 in
set_option maxRecDepth 100000 in
theorem shuttlelaw11_VersionTurned.calls (k : Nat) (A0 : Option Addr) (c0 : Nat) (l0 : List Int) (a1 : Int) (a2 : Int) (r : Bool) (w : World) (hr0 : Kd.C (Kd.int .u8) w A0 l0.length l0) (hc0 : l0.length ≤ c0) (h : shuttlelaw11_VersionTurned.f k l0 a1 a2 = some r) (hT_ : TP w := by first | assumption | exact TP_of (by assumption : TP _) (by repeat (first | (with_reducible first | apply below_alloc | apply pw_below_drewN | apply below_drew1 | refine below_set ?_ (Aside0.out (by assumption))) | exact Aside0.out (by assumption) | exact Below.refl _ _))) :
    Calls Tryd.prog 8 #[.slice A0 l0.length c0, .int .i64 a1, .int .i64 a2] w fun e w' => e = .returned (.bool r) ∧ Below w.heap.size w w' := by
  have HR0 := Aside0.mk hr0
  have HC0 := Aside0.mk hc0
  clear hr0 hc0
  have HB := Aside0.mk (Below.refl w.heap.size w)
  have H : ((shuttleref01_Few.f k l0 40).bind fun t591 => ((version_Code.f k t591 (wrap64 (Int.tmod (IntKind.u64.wrap (a1)) 4))).bind fun bt594 => ((shuttlelaw11_splits.f k).bind fun t598 => (if t598 = true then (if bt594.2 = 0 then (if (bt594.1.length : Int) < 6 then (some false) else (if (IntKind.u64.wrap ((bt594.1.length : Int))) = 0 then (none) else (if 0 ≤ (wrap64 (Int.tmod (IntKind.u64.wrap (a2)) (IntKind.u64.wrap ((bt594.1.length : Int))))) then (if (wrap64 (Int.tmod (IntKind.u64.wrap (a2)) (IntKind.u64.wrap ((bt594.1.length : Int))))) < (bt594.1.length : Int) then ((version_Alone.f k (bt594.1.set ((wrap64 (Int.tmod (IntKind.u64.wrap (a2)) (IntKind.u64.wrap ((bt594.1.length : Int))))) : Int).toNat (Go.bits .xor .u8 (rd bt594.1 (wrap64 (Int.tmod (IntKind.u64.wrap (a2)) (IntKind.u64.wrap ((bt594.1.length : Int)))))) 1)) (wrap64 (Int.tmod (IntKind.u64.wrap (a1)) 4))).bind fun bt601 => (if bt601.2 = 13 then (if (bt601.1.length : Int) = 0 then (some true) else (if bt601.2 = 0 then (some ((strOfNums bt601.1).toList != (strOfNums t591).toList)) else (some false))) else (if bt601.2 = 0 then (some ((strOfNums bt601.1).toList != (strOfNums t591).toList)) else (some false)))) else (none)) else (none)))) else (some false)) else (some false))))) = some r := h
  clear h
  replace H := Option.bind_eq_some_iff.mp H
  obtain ⟨t591, A40, H⟩ := H
  replace H : ((version_Code.f k t591 (wrap64 (Int.tmod (IntKind.u64.wrap (a1)) 4))).bind fun bt594 => ((shuttlelaw11_splits.f k).bind fun t598 => (if t598 = true then (if bt594.2 = 0 then (if (bt594.1.length : Int) < 6 then (some false) else (if (IntKind.u64.wrap ((bt594.1.length : Int))) = 0 then (none) else (if 0 ≤ (wrap64 (Int.tmod (IntKind.u64.wrap (a2)) (IntKind.u64.wrap ((bt594.1.length : Int))))) then (if (wrap64 (Int.tmod (IntKind.u64.wrap (a2)) (IntKind.u64.wrap ((bt594.1.length : Int))))) < (bt594.1.length : Int) then ((version_Alone.f k (bt594.1.set ((wrap64 (Int.tmod (IntKind.u64.wrap (a2)) (IntKind.u64.wrap ((bt594.1.length : Int))))) : Int).toNat (Go.bits .xor .u8 (rd bt594.1 (wrap64 (Int.tmod (IntKind.u64.wrap (a2)) (IntKind.u64.wrap ((bt594.1.length : Int)))))) 1)) (wrap64 (Int.tmod (IntKind.u64.wrap (a1)) 4))).bind fun bt601 => (if bt601.2 = 13 then (if (bt601.1.length : Int) = 0 then (some true) else (if bt601.2 = 0 then (some ((strOfNums bt601.1).toList != (strOfNums t591).toList)) else (some false))) else (if bt601.2 = 0 then (some ((strOfNums bt601.1).toList != (strOfNums t591).toList)) else (some false)))) else (none)) else (none)))) else (some false)) else (some false)))) = some r := H
  have A4 := Aside0.mk A40
  clear A40
  replace H := Option.bind_eq_some_iff.mp H
  obtain ⟨⟨t594, t595⟩, A50, H⟩ := H
  replace H : ((shuttlelaw11_splits.f k).bind fun t598 => (if t598 = true then (if t595 = 0 then (if (t594.length : Int) < 6 then (some false) else (if (IntKind.u64.wrap ((t594.length : Int))) = 0 then (none) else (if 0 ≤ (wrap64 (Int.tmod (IntKind.u64.wrap (a2)) (IntKind.u64.wrap ((t594.length : Int))))) then (if (wrap64 (Int.tmod (IntKind.u64.wrap (a2)) (IntKind.u64.wrap ((t594.length : Int))))) < (t594.length : Int) then ((version_Alone.f k (t594.set ((wrap64 (Int.tmod (IntKind.u64.wrap (a2)) (IntKind.u64.wrap ((t594.length : Int))))) : Int).toNat (Go.bits .xor .u8 (rd t594 (wrap64 (Int.tmod (IntKind.u64.wrap (a2)) (IntKind.u64.wrap ((t594.length : Int)))))) 1)) (wrap64 (Int.tmod (IntKind.u64.wrap (a1)) 4))).bind fun bt601 => (if bt601.2 = 13 then (if (bt601.1.length : Int) = 0 then (some true) else (if bt601.2 = 0 then (some ((strOfNums bt601.1).toList != (strOfNums t591).toList)) else (some false))) else (if bt601.2 = 0 then (some ((strOfNums bt601.1).toList != (strOfNums t591).toList)) else (some false)))) else (none)) else (none)))) else (some false)) else (some false))) = some r := H
  have A5 := Aside0.mk A50
  clear A50
  replace H := Option.bind_eq_some_iff.mp H
  obtain ⟨t598, A60, H⟩ := H
  replace H : (if t598 = true then (if t595 = 0 then (if (t594.length : Int) < 6 then (some false) else (if (IntKind.u64.wrap ((t594.length : Int))) = 0 then (none) else (if 0 ≤ (wrap64 (Int.tmod (IntKind.u64.wrap (a2)) (IntKind.u64.wrap ((t594.length : Int))))) then (if (wrap64 (Int.tmod (IntKind.u64.wrap (a2)) (IntKind.u64.wrap ((t594.length : Int))))) < (t594.length : Int) then ((version_Alone.f k (t594.set ((wrap64 (Int.tmod (IntKind.u64.wrap (a2)) (IntKind.u64.wrap ((t594.length : Int))))) : Int).toNat (Go.bits .xor .u8 (rd t594 (wrap64 (Int.tmod (IntKind.u64.wrap (a2)) (IntKind.u64.wrap ((t594.length : Int)))))) 1)) (wrap64 (Int.tmod (IntKind.u64.wrap (a1)) 4))).bind fun bt601 => (if bt601.2 = 13 then (if (bt601.1.length : Int) = 0 then (some true) else (if bt601.2 = 0 then (some ((strOfNums bt601.1).toList != (strOfNums t591).toList)) else (some false))) else (if bt601.2 = 0 then (some ((strOfNums bt601.1).toList != (strOfNums t591).toList)) else (some false)))) else (none)) else (none)))) else (some false)) else (some false)) = some r := H
  have A6 := Aside0.mk A60
  clear A60
  by_cases c7 : t598 = true
  · subst c7
    have H1 : (if t595 = 0 then (if (t594.length : Int) < 6 then (some false) else (if (IntKind.u64.wrap ((t594.length : Int))) = 0 then (none) else (if 0 ≤ (wrap64 (Int.tmod (IntKind.u64.wrap (a2)) (IntKind.u64.wrap ((t594.length : Int))))) then (if (wrap64 (Int.tmod (IntKind.u64.wrap (a2)) (IntKind.u64.wrap ((t594.length : Int))))) < (t594.length : Int) then ((version_Alone.f k (t594.set ((wrap64 (Int.tmod (IntKind.u64.wrap (a2)) (IntKind.u64.wrap ((t594.length : Int))))) : Int).toNat (Go.bits .xor .u8 (rd t594 (wrap64 (Int.tmod (IntKind.u64.wrap (a2)) (IntKind.u64.wrap ((t594.length : Int)))))) 1)) (wrap64 (Int.tmod (IntKind.u64.wrap (a1)) 4))).bind fun bt601 => (if bt601.2 = 13 then (if (bt601.1.length : Int) = 0 then (some true) else (if bt601.2 = 0 then (some ((strOfNums bt601.1).toList != (strOfNums t591).toList)) else (some false))) else (if bt601.2 = 0 then (some ((strOfNums bt601.1).toList != (strOfNums t591).toList)) else (some false)))) else (none)) else (none)))) else (some false)) = some r := by rw [if_pos rfl] at H; exact H
    clear H
    have H := H1
    clear H1
    by_cases c8 : t595 = 0
    · rw [if_pos c8] at H
      have c8b0 : (t595 == 0) = true := beq_iff_eq.mpr c8
      have c8b1 : (t595 != 0) = false := bne_eq_false_iff_eq.mpr c8
      clear c8
      by_cases c9 : (t594.length : Int) < 6
      · rw [if_pos c9] at H
        have c9b0 : decide ((t594.length : Int) < 6) = true := decide_eq_true c9
        have c9b1 : decide (t594.length < 6) = true := decide_eq_true (by omega)
        clear c9
        obtain rfl := Option.some.inj H
        go_enter Tryd.func8, Tryd.ntmps8
        go_wp2_with (first | ((with_reducible refine gate_callee (f := 24) rfl ?_); refine goesL_ (some 12) rfl rfl Tryd.func24 (by kernel_rfl) rfl #[.slice A0 l0.length c0, .int .i64 40] rfl (by (try simp only [List.map_toArray, List.map_cons, List.map_nil]); first | done | rfl | (simp only [List.length_drop, List.length_take]; rfl)) ?_; (with_reducible refine (shuttleref01_Few.calls k _ _ l0 40 t591 _ ?side1 ?side2 A4.out).mono ?_); (case side1 => repeat (first | exact HR0.out | (with_reducible refine Kd.C_alloc ?_ _) | (with_reducible refine Kd.C_drewN ?_ _) | (with_reducible refine Kd.C_drew ?_))); (case side2 => exact HC0.out); rintro e w10 ⟨v592, rfl, ho0, hb⟩; refine ⟨_, rfl, ?_⟩; have n0_ := Aside0.mk (Kd.R_lower ho0 (below_size (by repeat (first | (with_reducible first | exact HB.out | apply below_alloc | apply pw_below_drewN | apply below_drew1) | exact HB.out)))); have n1_ := Aside0.mk (below_step (by repeat (first | (with_reducible first | exact HB.out | apply below_alloc | apply pw_below_drewN | apply below_drew1) | exact HB.out)) hb); clear HB; have HO593 := n0_; have HB := n1_; clear n0_ n1_; (try clear hb); (try clear hb2); (try clear hk); (try clear hi); (try clear ho0); obtain ⟨Ao11, co11, eo11⟩ := Kd.R_slice HO593.out; subst eo11) | ((with_reducible refine gate_callee (f := 21) rfl ?_); refine goesL_ (some 20) rfl rfl Tryd.func21 (by kernel_rfl) rfl #[.slice Ao11 t591.length co11, .int .i64 (wrap64 (Int.tmod (IntKind.u64.wrap (a1)) 4))] rfl (by (try simp only [List.map_toArray, List.map_cons, List.map_nil]); first | done | rfl | (simp only [List.length_drop, List.length_take]; rfl)) ?_; (with_reducible refine (version_Code.calls k _ _ t591 (wrap64 (Int.tmod (IntKind.u64.wrap (a1)) 4)) t594 t595 _ ?side1 ?side2 A5.out).mono ?_); (case side1 => repeat (first | exact (Kd.R_reads' HO593.out).2.2 | (with_reducible refine Kd.C_alloc ?_ _) | (with_reducible refine Kd.C_drewN ?_ _) | (with_reducible refine Kd.C_drew ?_))); (case side2 => exact (Kd.R_reads' HO593.out).2.1); rintro e w12 ⟨v596, rfl, ho0, hb⟩; refine ⟨_, rfl, ?_⟩; have n0_ := Aside0.mk (Kd.R_elder' (by (with_reducible repeat (first | apply Kd.R_alloc | apply Kd.R_drewN | apply Kd.R_drew)); exact HO593.out) (Kd.R_base ho0) hb); have n1_ := Aside0.mk (Kd.R_lower (Kd.R_new' ho0 (Kd.R_lt (by (with_reducible repeat (first | apply Kd.R_alloc | apply Kd.R_drewN | apply Kd.R_drew)); exact HO593.out))) (below_size (by repeat (first | (with_reducible first | exact HB.out | apply below_alloc | apply pw_below_drewN | apply below_drew1) | exact HB.out)))); have n2_ := Aside0.mk (below_step (by repeat (first | (with_reducible first | exact HB.out | apply below_alloc | apply pw_below_drewN | apply below_drew1) | exact HB.out)) hb); clear HO593; clear HB; have HO593 := n0_; have HO597 := n1_; have HB := n2_; clear n0_ n1_ n2_; (try clear hb); (try clear hb2); (try clear hk); (try clear hi); (try clear ho0)) | ((with_reducible refine gate_callee (f := 19) rfl ?_); refine goesL_ (some 23) rfl rfl Tryd.func19 (by kernel_rfl) rfl #[] rfl (by (try simp only [List.map_toArray, List.map_cons, List.map_nil]); first | done | rfl | (simp only [List.length_drop, List.length_take]; rfl)) ?_; (with_reducible refine (shuttlelaw11_splits.calls k  true _ A6.out).mono ?_); rintro e w13 ⟨rfl, hb⟩; refine ⟨_, rfl, ?_⟩; have n0_ := Aside0.mk (Kd.R_below (by (with_reducible repeat (first | apply Kd.R_alloc | apply Kd.R_drewN | apply Kd.R_drew)); exact HO593.out) hb); have n1_ := Aside0.mk (Kd.R_below (by (with_reducible repeat (first | apply Kd.R_alloc | apply Kd.R_drewN | apply Kd.R_drew)); exact HO597.out) hb); have n2_ := Aside0.mk (below_step (by repeat (first | (with_reducible first | exact HB.out | apply below_alloc | apply pw_below_drewN | apply below_drew1) | exact HB.out)) hb); clear HO593; clear HO597; clear HB; have HO593 := n0_; have HO597 := n1_; have HB := n2_; clear n0_ n1_ n2_; (try clear hb); (try clear hb2); (try clear hk); (try clear hi); obtain ⟨Ao14, co14, eo14⟩ := Kd.R_slice HO597.out; subst eo14))
        go_ret
        exact ⟨by first | rfl | (simp [errW_none, errW_some] <;> rfl) | (simp [*, errW_none, errW_some] <;> rfl), by repeat (first | (with_reducible first | exact HB.out | apply below_alloc | apply pw_below_drewN | apply below_drew1) | exact HB.out)⟩
      · rw [if_neg c9] at H
        have c9b0 : decide ((t594.length : Int) < 6) = false := decide_eq_false c9
        have c9b1 : decide (t594.length < 6) = false := decide_eq_false (by omega)
        clear c9
        by_cases c15 : (IntKind.u64.wrap ((t594.length : Int))) = 0
        · rw [if_pos c15] at H
          exact absurd H (by simp)
        · rw [if_neg c15] at H
          have c15b0 : ((IntKind.u64.wrap ((t594.length : Int))) == 0) = false := beq_eq_false_iff_ne.mpr c15
          have c15b1 : ((IntKind.u64.wrap ((t594.length : Int))) != 0) = true := bne_iff_ne.mpr c15
          obtain ⟨ji16, hji16⟩ : ∃ j_ : Int, (wrap64 (Int.tmod (IntKind.u64.wrap (a2)) (IntKind.u64.wrap ((t594.length : Int))))) = j_ := ⟨_, rfl⟩
          replace H : (if 0 ≤ (ji16) then (if (ji16) < (t594.length : Int) then ((version_Alone.f k (t594.set ((ji16) : Int).toNat (Go.bits .xor .u8 (rd t594 (ji16)) 1)) (wrap64 (Int.tmod (IntKind.u64.wrap (a1)) 4))).bind fun bt601 => (if bt601.2 = 13 then (if (bt601.1.length : Int) = 0 then (some true) else (if bt601.2 = 0 then (some ((strOfNums bt601.1).toList != (strOfNums t591).toList)) else (some false))) else (if bt601.2 = 0 then (some ((strOfNums bt601.1).toList != (strOfNums t591).toList)) else (some false)))) else (none)) else (none)) = some r := by first | (rw [hji16] at H; exact H) | (simp only [hji16] at H ⊢; exact H)
          (try rw [hji16] at A4)
          (try rw [hji16] at A5)
          (try rw [hji16] at A6)
          have hji16w : (IntKind.i64.wrap (Int.tmod (IntKind.u64.wrap (a2)) (IntKind.u64.wrap ((t594.length : Int))))) = ji16 := (i64_w _).trans hji16
          by_cases c17 : 0 ≤ (ji16)
          · rw [if_pos c17] at H
            have c17b0 : decide (0 ≤ (ji16)) = true := decide_eq_true c17
            clear c17
            by_cases c18 : (ji16) < (t594.length : Int)
            · rw [if_pos c18] at H
              have c18b0 : decide ((ji16) < (t594.length : Int)) = true := decide_eq_true c18
              clear c18
              obtain ⟨y600, hy600⟩ : ∃ y_ : List Int, y_ = (t594.set ((ji16) : Int).toNat (Go.bits .xor .u8 (rd t594 (ji16)) 1)) := ⟨_, rfl⟩
              replace H : ((version_Alone.f k y600 (wrap64 (Int.tmod (IntKind.u64.wrap (a1)) 4))).bind fun bt601 => (if bt601.2 = 13 then (if (bt601.1.length : Int) = 0 then (some true) else (if bt601.2 = 0 then (some ((strOfNums bt601.1).toList != (strOfNums t591).toList)) else (some false))) else (if bt601.2 = 0 then (some ((strOfNums bt601.1).toList != (strOfNums t591).toList)) else (some false)))) = some r := by first | (rw [hy600]; with_reducible exact H) | (have H2_ := (Option.bind_some _ _).symm.trans H; rw [hy600]; with_reducible exact H2_) | (have H2_ := (Option.bind_some _ _).symm.trans H; with_reducible exact H2_) | with_reducible exact H | (rw [hy600]; exact H) | exact H
              have Ny600 := Aside0.mk hy600
              clear hy600
              replace H := Option.bind_eq_some_iff.mp H
              obtain ⟨⟨t601, t602⟩, A200, H⟩ := H
              replace H : (if t602 = 13 then (if (t601.length : Int) = 0 then (some true) else (if t602 = 0 then (some ((strOfNums t601).toList != (strOfNums t591).toList)) else (some false))) else (if t602 = 0 then (some ((strOfNums t601).toList != (strOfNums t591).toList)) else (some false))) = some r := H
              have A20 := Aside0.mk A200
              clear A200
              by_cases c21 : t602 = 13
              · rw [if_pos c21] at H
                have c21b0 : (t602 == 13) = true := beq_iff_eq.mpr c21
                have c21b1 : (t602 != 13) = false := bne_eq_false_iff_eq.mpr c21
                clear c21
                by_cases c22 : (t601.length : Int) = 0
                · rw [if_pos c22] at H
                  have c22b0 : ((t601.length : Int) == 0) = true := beq_iff_eq.mpr c22
                  have c22b1 : ((t601.length : Int) != 0) = false := bne_eq_false_iff_eq.mpr c22
                  clear c22
                  obtain rfl := Option.some.inj H
                  go_enter Tryd.func8, Tryd.ntmps8
                  go_wp2_with (first | ((with_reducible refine gate_callee (f := 24) rfl ?_); refine goesL_ (some 12) rfl rfl Tryd.func24 (by kernel_rfl) rfl #[.slice A0 l0.length c0, .int .i64 40] rfl (by (try simp only [List.map_toArray, List.map_cons, List.map_nil]); first | done | rfl | (simp only [List.length_drop, List.length_take]; rfl)) ?_; (with_reducible refine (shuttleref01_Few.calls k _ _ l0 40 t591 _ ?side1 ?side2 A4.out).mono ?_); (case side1 => repeat (first | exact HR0.out | (with_reducible refine Kd.C_alloc ?_ _) | (with_reducible refine Kd.C_drewN ?_ _) | (with_reducible refine Kd.C_drew ?_))); (case side2 => exact HC0.out); rintro e w23 ⟨v592, rfl, ho0, hb⟩; refine ⟨_, rfl, ?_⟩; have n0_ := Aside0.mk (Kd.R_lower ho0 (below_size (by repeat (first | (with_reducible first | exact HB.out | apply below_alloc | apply pw_below_drewN | apply below_drew1) | exact HB.out)))); have n1_ := Aside0.mk (below_step (by repeat (first | (with_reducible first | exact HB.out | apply below_alloc | apply pw_below_drewN | apply below_drew1) | exact HB.out)) hb); clear HB; have HO593 := n0_; have HB := n1_; clear n0_ n1_; (try clear hb); (try clear hb2); (try clear hk); (try clear hi); (try clear ho0); obtain ⟨Ao24, co24, eo24⟩ := Kd.R_slice HO593.out; subst eo24) | ((with_reducible refine gate_callee (f := 21) rfl ?_); refine goesL_ (some 20) rfl rfl Tryd.func21 (by kernel_rfl) rfl #[.slice Ao24 t591.length co24, .int .i64 (wrap64 (Int.tmod (IntKind.u64.wrap (a1)) 4))] rfl (by (try simp only [List.map_toArray, List.map_cons, List.map_nil]); first | done | rfl | (simp only [List.length_drop, List.length_take]; rfl)) ?_; (with_reducible refine (version_Code.calls k _ _ t591 (wrap64 (Int.tmod (IntKind.u64.wrap (a1)) 4)) t594 t595 _ ?side1 ?side2 A5.out).mono ?_); (case side1 => repeat (first | exact (Kd.R_reads' HO593.out).2.2 | (with_reducible refine Kd.C_alloc ?_ _) | (with_reducible refine Kd.C_drewN ?_ _) | (with_reducible refine Kd.C_drew ?_))); (case side2 => exact (Kd.R_reads' HO593.out).2.1); rintro e w25 ⟨v596, rfl, ho0, hb⟩; refine ⟨_, rfl, ?_⟩; have n0_ := Aside0.mk (Kd.R_elder' (by (with_reducible repeat (first | apply Kd.R_alloc | apply Kd.R_drewN | apply Kd.R_drew)); exact HO593.out) (Kd.R_base ho0) hb); have n1_ := Aside0.mk (Kd.R_lower (Kd.R_new' ho0 (Kd.R_lt (by (with_reducible repeat (first | apply Kd.R_alloc | apply Kd.R_drewN | apply Kd.R_drew)); exact HO593.out))) (below_size (by repeat (first | (with_reducible first | exact HB.out | apply below_alloc | apply pw_below_drewN | apply below_drew1) | exact HB.out)))); have n2_ := Aside0.mk (below_step (by repeat (first | (with_reducible first | exact HB.out | apply below_alloc | apply pw_below_drewN | apply below_drew1) | exact HB.out)) hb); clear HO593; clear HB; have HO593 := n0_; have HO597 := n1_; have HB := n2_; clear n0_ n1_ n2_; (try clear hb); (try clear hb2); (try clear hk); (try clear hi); (try clear ho0)) | ((with_reducible refine gate_callee (f := 19) rfl ?_); refine goesL_ (some 23) rfl rfl Tryd.func19 (by kernel_rfl) rfl #[] rfl (by (try simp only [List.map_toArray, List.map_cons, List.map_nil]); first | done | rfl | (simp only [List.length_drop, List.length_take]; rfl)) ?_; (with_reducible refine (shuttlelaw11_splits.calls k  true _ A6.out).mono ?_); rintro e w26 ⟨rfl, hb⟩; refine ⟨_, rfl, ?_⟩; have n0_ := Aside0.mk (Kd.R_below (by (with_reducible repeat (first | apply Kd.R_alloc | apply Kd.R_drewN | apply Kd.R_drew)); exact HO593.out) hb); have n1_ := Aside0.mk (Kd.R_below (by (with_reducible repeat (first | apply Kd.R_alloc | apply Kd.R_drewN | apply Kd.R_drew)); exact HO597.out) hb); have n2_ := Aside0.mk (below_step (by repeat (first | (with_reducible first | exact HB.out | apply below_alloc | apply pw_below_drewN | apply below_drew1) | exact HB.out)) hb); clear HO593; clear HO597; clear HB; have HO593 := n0_; have HO597 := n1_; have HB := n2_; clear n0_ n1_ n2_; (try clear hb); (try clear hb2); (try clear hk); (try clear hi); obtain ⟨Ao27, co27, eo27⟩ := Kd.R_slice HO597.out; subst eo27; have p599 : 0 ≤ ((ji16) : Int) := of_decide_eq_true (by first | (with_reducible assumption) | assumption); have q599 : (ji16) < (t594.length : Int) := of_decide_eq_true (by first | (with_reducible assumption) | assumption); obtain ⟨ad599, e599, hx599_0⟩ := Kd.at_int (Kd.R_reads' HO597.out).2.2 (ji16) p599 q599; cases e599; replace p599 := eq_true p599; replace q599 := eq_true q599; have p19 : 0 ≤ ((ji16) : Int) := of_decide_eq_true (by first | (with_reducible assumption) | assumption); have q19 : ((ji16) : Int) < ((t594.length : Int) : Int) := of_decide_eq_true (by first | (with_reducible assumption) | assumption); obtain ⟨go19, co19, eo19, gb19, gl19, cl19, HG19⟩ := Kd.R_form HO597.out (by omega); (first | cases eo19 | (injection eo19 with ea_ en_ ec_; (first | subst ea_ | (injection ea_ with ea_; subst ea_)); subst ec_; clear en_)); have GB19 := Aside0.mk gb19; have GG19 := Aside0.mk HG19; clear gb19 gl19 HG19; (first | simp only [add_plain] at hx599_0 | skip); obtain ⟨hx19_0, hf19_0⟩ := Kd.R_celln 0 HO597.out ((ji16) : Int) p19 q19; replace p19 := eq_true p19; replace q19 := eq_true q19; have n_ := Aside0.mk (Kd.R_mono (ok' := (fun k_ => some k_ ≠ (.slice Ao24 t591.length co24 : Value).ownBlock)) HO597.out (fun k_ hk => hk.2)); clear HO597; have HO597 := n_; clear n_; obtain ⟨hy28_, hz28_⟩ := Kd.R_celln 0 HO597.out ((ji16) : Int) (of_decide_eq_true (by first | (with_reducible assumption) | assumption)) (of_decide_eq_true (by first | (with_reducible assumption) | assumption)); have HP28 := Kd.R_putg HO597.out ((ji16) : Int) (Go.bits .xor .u8 (rd t594 (ji16)) 1)) | ((with_reducible refine gate_store (t := 5) (p := 45) rfl ?_); refine store_event (t := 5) (p := 45) (v := ?vo_w29) (w1 := (w26.setCell ⟨go19, ((ji16) : Int).toNat, none⟩ (.int .u8 (Go.bits .xor .u8 (rd t594 (ji16)) 1)))) ?hg ?ho ?hn ?hr ?_; (case ho => rfl); (case hg => rfl); (case hn => rfl); (case hr => first | (go_simp; done) | (go_simp; rfl)); intro w29 hw; have hg : w26.grownBy w29 (some go19) := (by rw [hw]; exact HP28.2); have hp_ : Kd.R (Kd.int .u8) 5 w29 w.heap.size (fun k_ => some k_ ≠ (.slice Ao24 t591.length co24 : Value).ownBlock) (.slice (some ⟨go19, 0, none⟩) t594.length co27) y600 := (by rw [hw, Ny600.out]; exact HP28.1); clear HP28; have n0_ := Aside0.mk (Kd.R_after (v := (.slice (some ⟨go19, 0, none⟩) t594.length co27)) (v1 := (.slice (some ⟨go19, 0, none⟩) t594.length co27)) (ok := (fun _ => True)) (by (with_reducible repeat (first | apply Kd.R_alloc | apply Kd.R_drewN | apply Kd.R_drew)); exact HO593.out) hg (.inl rfl)); have n1_ := Aside0.mk (hp_); have n2_ := Aside0.mk ((by rw [hw]; exact below_set (HB.out) GB19.out : Below w.heap.size w w29)); clear HO593; clear HO597; clear HB; have HO593 := n0_; have HO597 := n1_; have HB := n2_; clear n0_ n1_ n2_; clear hg hw hp_) | ((with_reducible refine gate_callee (f := 18) rfl ?_); refine goesL_ (some 49) rfl rfl Tryd.func18 (by kernel_rfl) rfl #[.slice (some ⟨go19, 0, none⟩) y600.length co27, .int .i64 (wrap64 (Int.tmod (IntKind.u64.wrap (a1)) 4))] rfl (by (try simp only [List.map_toArray, List.map_cons, List.map_nil]); first | done | (rw [show y600.length = t594.length from (Kd.R_reads' HO597.out).1.symm] <;> rfl) | rfl | (simp only [List.length_drop, List.length_take]; rfl)) ?_; (with_reducible refine (version_Alone.calls k _ _ y600 (wrap64 (Int.tmod (IntKind.u64.wrap (a1)) 4)) t601 t602 _ ?side1 ?side2 A20.out).mono ?_); (case side1 => repeat (first | exact (Kd.R_reads' HO597.out).2.2 | (with_reducible refine Kd.C_alloc ?_ _) | (with_reducible refine Kd.C_drewN ?_ _) | (with_reducible refine Kd.C_drew ?_))); (case side2 => rw [show y600.length = t594.length from (Kd.R_reads' HO597.out).1.symm]; exact (Kd.R_reads' HO597.out).2.1); rintro e w30 ⟨v603, rfl, ho0, hb⟩; refine ⟨_, rfl, ?_⟩; have n0_ := Aside0.mk (Kd.R_elder' (by (with_reducible repeat (first | apply Kd.R_alloc | apply Kd.R_drewN | apply Kd.R_drew)); exact HO593.out) (Kd.R_base ho0) hb); have n1_ := Aside0.mk (Kd.R_elder' (by (with_reducible repeat (first | apply Kd.R_alloc | apply Kd.R_drewN | apply Kd.R_drew)); exact HO597.out) (Kd.R_base ho0) hb); have n2_ := Aside0.mk (Kd.R_lower (Kd.R_new' (Kd.R_new' ho0 (Kd.R_lt (by (with_reducible repeat (first | apply Kd.R_alloc | apply Kd.R_drewN | apply Kd.R_drew)); exact HO593.out))) (Kd.R_lt (by (with_reducible repeat (first | apply Kd.R_alloc | apply Kd.R_drewN | apply Kd.R_drew)); exact HO597.out))) (below_size (by repeat (first | (with_reducible first | exact HB.out | apply below_alloc | apply pw_below_drewN | apply below_drew1) | exact HB.out)))); have n3_ := Aside0.mk (below_step (by repeat (first | (with_reducible first | exact HB.out | apply below_alloc | apply pw_below_drewN | apply below_drew1) | exact HB.out)) hb); clear HO593; clear HO597; clear HB; have HO593 := n0_; have HO597 := n1_; have HO604 := n2_; have HB := n3_; clear n0_ n1_ n2_ n3_; (try clear hb); (try clear hb2); (try clear hk); (try clear hi); (try clear ho0); obtain ⟨Ao31, co31, eo31⟩ := Kd.R_slice HO604.out; subst eo31))
                  go_ret
                  exact ⟨by first | rfl | (simp [errW_none, errW_some] <;> rfl) | (simp only [← hji16]; first | rfl | (simp [errW_none, errW_some] <;> rfl)) | (simp [*, errW_none, errW_some] <;> rfl), by repeat (first | (with_reducible first | exact HB.out | apply below_alloc | apply pw_below_drewN | apply below_drew1) | exact HB.out)⟩
                · rw [if_neg c22] at H
                  have c22b0 : ((t601.length : Int) == 0) = false := beq_eq_false_iff_ne.mpr c22
                  have c22b1 : ((t601.length : Int) != 0) = true := bne_iff_ne.mpr c22
                  have c22b2 : ¬ (t601 = []) := fun h_ => c22 (by rw [h_]; rfl)
                  by_cases c32 : t602 = 0
                  · rw [if_pos c32] at H
                    have c32b0 : (t602 == 0) = true := beq_iff_eq.mpr c32
                    have c32b1 : (t602 != 0) = false := bne_eq_false_iff_eq.mpr c32
                    clear c32
                    obtain rfl := Option.some.inj H
                    go_enter Tryd.func8, Tryd.ntmps8
                    go_wp2_with (first | ((with_reducible refine gate_callee (f := 24) rfl ?_); refine goesL_ (some 12) rfl rfl Tryd.func24 (by kernel_rfl) rfl #[.slice A0 l0.length c0, .int .i64 40] rfl (by (try simp only [List.map_toArray, List.map_cons, List.map_nil]); first | done | rfl | (simp only [List.length_drop, List.length_take]; rfl)) ?_; (with_reducible refine (shuttleref01_Few.calls k _ _ l0 40 t591 _ ?side1 ?side2 A4.out).mono ?_); (case side1 => repeat (first | exact HR0.out | (with_reducible refine Kd.C_alloc ?_ _) | (with_reducible refine Kd.C_drewN ?_ _) | (with_reducible refine Kd.C_drew ?_))); (case side2 => exact HC0.out); rintro e w33 ⟨v592, rfl, ho0, hb⟩; refine ⟨_, rfl, ?_⟩; have n0_ := Aside0.mk (Kd.R_lower ho0 (below_size (by repeat (first | (with_reducible first | exact HB.out | apply below_alloc | apply pw_below_drewN | apply below_drew1) | exact HB.out)))); have n1_ := Aside0.mk (below_step (by repeat (first | (with_reducible first | exact HB.out | apply below_alloc | apply pw_below_drewN | apply below_drew1) | exact HB.out)) hb); clear HB; have HO593 := n0_; have HB := n1_; clear n0_ n1_; (try clear hb); (try clear hb2); (try clear hk); (try clear hi); (try clear ho0); obtain ⟨Ao34, co34, eo34⟩ := Kd.R_slice HO593.out; subst eo34) | ((with_reducible refine gate_callee (f := 21) rfl ?_); refine goesL_ (some 20) rfl rfl Tryd.func21 (by kernel_rfl) rfl #[.slice Ao34 t591.length co34, .int .i64 (wrap64 (Int.tmod (IntKind.u64.wrap (a1)) 4))] rfl (by (try simp only [List.map_toArray, List.map_cons, List.map_nil]); first | done | rfl | (simp only [List.length_drop, List.length_take]; rfl)) ?_; (with_reducible refine (version_Code.calls k _ _ t591 (wrap64 (Int.tmod (IntKind.u64.wrap (a1)) 4)) t594 t595 _ ?side1 ?side2 A5.out).mono ?_); (case side1 => repeat (first | exact (Kd.R_reads' HO593.out).2.2 | (with_reducible refine Kd.C_alloc ?_ _) | (with_reducible refine Kd.C_drewN ?_ _) | (with_reducible refine Kd.C_drew ?_))); (case side2 => exact (Kd.R_reads' HO593.out).2.1); rintro e w35 ⟨v596, rfl, ho0, hb⟩; refine ⟨_, rfl, ?_⟩; have n0_ := Aside0.mk (Kd.R_elder' (by (with_reducible repeat (first | apply Kd.R_alloc | apply Kd.R_drewN | apply Kd.R_drew)); exact HO593.out) (Kd.R_base ho0) hb); have n1_ := Aside0.mk (Kd.R_lower (Kd.R_new' ho0 (Kd.R_lt (by (with_reducible repeat (first | apply Kd.R_alloc | apply Kd.R_drewN | apply Kd.R_drew)); exact HO593.out))) (below_size (by repeat (first | (with_reducible first | exact HB.out | apply below_alloc | apply pw_below_drewN | apply below_drew1) | exact HB.out)))); have n2_ := Aside0.mk (below_step (by repeat (first | (with_reducible first | exact HB.out | apply below_alloc | apply pw_below_drewN | apply below_drew1) | exact HB.out)) hb); clear HO593; clear HB; have HO593 := n0_; have HO597 := n1_; have HB := n2_; clear n0_ n1_ n2_; (try clear hb); (try clear hb2); (try clear hk); (try clear hi); (try clear ho0)) | ((with_reducible refine gate_callee (f := 19) rfl ?_); refine goesL_ (some 23) rfl rfl Tryd.func19 (by kernel_rfl) rfl #[] rfl (by (try simp only [List.map_toArray, List.map_cons, List.map_nil]); first | done | rfl | (simp only [List.length_drop, List.length_take]; rfl)) ?_; (with_reducible refine (shuttlelaw11_splits.calls k  true _ A6.out).mono ?_); rintro e w36 ⟨rfl, hb⟩; refine ⟨_, rfl, ?_⟩; have n0_ := Aside0.mk (Kd.R_below (by (with_reducible repeat (first | apply Kd.R_alloc | apply Kd.R_drewN | apply Kd.R_drew)); exact HO593.out) hb); have n1_ := Aside0.mk (Kd.R_below (by (with_reducible repeat (first | apply Kd.R_alloc | apply Kd.R_drewN | apply Kd.R_drew)); exact HO597.out) hb); have n2_ := Aside0.mk (below_step (by repeat (first | (with_reducible first | exact HB.out | apply below_alloc | apply pw_below_drewN | apply below_drew1) | exact HB.out)) hb); clear HO593; clear HO597; clear HB; have HO593 := n0_; have HO597 := n1_; have HB := n2_; clear n0_ n1_ n2_; (try clear hb); (try clear hb2); (try clear hk); (try clear hi); obtain ⟨Ao37, co37, eo37⟩ := Kd.R_slice HO597.out; subst eo37; have p599 : 0 ≤ ((ji16) : Int) := of_decide_eq_true (by first | (with_reducible assumption) | assumption); have q599 : (ji16) < (t594.length : Int) := of_decide_eq_true (by first | (with_reducible assumption) | assumption); obtain ⟨ad599, e599, hx599_0⟩ := Kd.at_int (Kd.R_reads' HO597.out).2.2 (ji16) p599 q599; cases e599; replace p599 := eq_true p599; replace q599 := eq_true q599; have p19 : 0 ≤ ((ji16) : Int) := of_decide_eq_true (by first | (with_reducible assumption) | assumption); have q19 : ((ji16) : Int) < ((t594.length : Int) : Int) := of_decide_eq_true (by first | (with_reducible assumption) | assumption); obtain ⟨go19, co19, eo19, gb19, gl19, cl19, HG19⟩ := Kd.R_form HO597.out (by omega); (first | cases eo19 | (injection eo19 with ea_ en_ ec_; (first | subst ea_ | (injection ea_ with ea_; subst ea_)); subst ec_; clear en_)); have GB19 := Aside0.mk gb19; have GG19 := Aside0.mk HG19; clear gb19 gl19 HG19; (first | simp only [add_plain] at hx599_0 | skip); obtain ⟨hx19_0, hf19_0⟩ := Kd.R_celln 0 HO597.out ((ji16) : Int) p19 q19; replace p19 := eq_true p19; replace q19 := eq_true q19; have n_ := Aside0.mk (Kd.R_mono (ok' := (fun k_ => some k_ ≠ (.slice Ao34 t591.length co34 : Value).ownBlock)) HO597.out (fun k_ hk => hk.2)); clear HO597; have HO597 := n_; clear n_; obtain ⟨hy38_, hz38_⟩ := Kd.R_celln 0 HO597.out ((ji16) : Int) (of_decide_eq_true (by first | (with_reducible assumption) | assumption)) (of_decide_eq_true (by first | (with_reducible assumption) | assumption)); have HP38 := Kd.R_putg HO597.out ((ji16) : Int) (Go.bits .xor .u8 (rd t594 (ji16)) 1)) | ((with_reducible refine gate_store (t := 5) (p := 45) rfl ?_); refine store_event (t := 5) (p := 45) (v := ?vo_w39) (w1 := (w36.setCell ⟨go19, ((ji16) : Int).toNat, none⟩ (.int .u8 (Go.bits .xor .u8 (rd t594 (ji16)) 1)))) ?hg ?ho ?hn ?hr ?_; (case ho => rfl); (case hg => rfl); (case hn => rfl); (case hr => first | (go_simp; done) | (go_simp; rfl)); intro w39 hw; have hg : w36.grownBy w39 (some go19) := (by rw [hw]; exact HP38.2); have hp_ : Kd.R (Kd.int .u8) 5 w39 w.heap.size (fun k_ => some k_ ≠ (.slice Ao34 t591.length co34 : Value).ownBlock) (.slice (some ⟨go19, 0, none⟩) t594.length co37) y600 := (by rw [hw, Ny600.out]; exact HP38.1); clear HP38; have n0_ := Aside0.mk (Kd.R_after (v := (.slice (some ⟨go19, 0, none⟩) t594.length co37)) (v1 := (.slice (some ⟨go19, 0, none⟩) t594.length co37)) (ok := (fun _ => True)) (by (with_reducible repeat (first | apply Kd.R_alloc | apply Kd.R_drewN | apply Kd.R_drew)); exact HO593.out) hg (.inl rfl)); have n1_ := Aside0.mk (hp_); have n2_ := Aside0.mk ((by rw [hw]; exact below_set (HB.out) GB19.out : Below w.heap.size w w39)); clear HO593; clear HO597; clear HB; have HO593 := n0_; have HO597 := n1_; have HB := n2_; clear n0_ n1_ n2_; clear hg hw hp_) | ((with_reducible refine gate_callee (f := 18) rfl ?_); refine goesL_ (some 49) rfl rfl Tryd.func18 (by kernel_rfl) rfl #[.slice (some ⟨go19, 0, none⟩) y600.length co37, .int .i64 (wrap64 (Int.tmod (IntKind.u64.wrap (a1)) 4))] rfl (by (try simp only [List.map_toArray, List.map_cons, List.map_nil]); first | done | (rw [show y600.length = t594.length from (Kd.R_reads' HO597.out).1.symm] <;> rfl) | rfl | (simp only [List.length_drop, List.length_take]; rfl)) ?_; (with_reducible refine (version_Alone.calls k _ _ y600 (wrap64 (Int.tmod (IntKind.u64.wrap (a1)) 4)) t601 t602 _ ?side1 ?side2 A20.out).mono ?_); (case side1 => repeat (first | exact (Kd.R_reads' HO597.out).2.2 | (with_reducible refine Kd.C_alloc ?_ _) | (with_reducible refine Kd.C_drewN ?_ _) | (with_reducible refine Kd.C_drew ?_))); (case side2 => rw [show y600.length = t594.length from (Kd.R_reads' HO597.out).1.symm]; exact (Kd.R_reads' HO597.out).2.1); rintro e w40 ⟨v603, rfl, ho0, hb⟩; refine ⟨_, rfl, ?_⟩; have n0_ := Aside0.mk (Kd.R_elder' (by (with_reducible repeat (first | apply Kd.R_alloc | apply Kd.R_drewN | apply Kd.R_drew)); exact HO593.out) (Kd.R_base ho0) hb); have n1_ := Aside0.mk (Kd.R_elder' (by (with_reducible repeat (first | apply Kd.R_alloc | apply Kd.R_drewN | apply Kd.R_drew)); exact HO597.out) (Kd.R_base ho0) hb); have n2_ := Aside0.mk (Kd.R_lower (Kd.R_new' (Kd.R_new' ho0 (Kd.R_lt (by (with_reducible repeat (first | apply Kd.R_alloc | apply Kd.R_drewN | apply Kd.R_drew)); exact HO593.out))) (Kd.R_lt (by (with_reducible repeat (first | apply Kd.R_alloc | apply Kd.R_drewN | apply Kd.R_drew)); exact HO597.out))) (below_size (by repeat (first | (with_reducible first | exact HB.out | apply below_alloc | apply pw_below_drewN | apply below_drew1) | exact HB.out)))); have n3_ := Aside0.mk (below_step (by repeat (first | (with_reducible first | exact HB.out | apply below_alloc | apply pw_below_drewN | apply below_drew1) | exact HB.out)) hb); clear HO593; clear HO597; clear HB; have HO593 := n0_; have HO597 := n1_; have HO604 := n2_; have HB := n3_; clear n0_ n1_ n2_ n3_; (try clear hb); (try clear hb2); (try clear hk); (try clear hi); (try clear ho0); obtain ⟨Ao41, co41, eo41⟩ := Kd.R_slice HO604.out; subst eo41; have hcv42 := own_string (P := Tryd.prog) Tryd.underlying35 Tryd.underlying5 Tryd.underlying9 (Kd.own_of_R HO604.out); have hcv43 := own_string (P := Tryd.prog) Tryd.underlying35 Tryd.underlying5 Tryd.underlying9 (Kd.own_of_R HO593.out)))
                    go_ret
                    exact ⟨by first | rfl | (simp [errW_none, errW_some] <;> rfl) | (simp only [← hji16]; first | rfl | (simp [errW_none, errW_some] <;> rfl)) | (simp [*, errW_none, errW_some] <;> rfl), by repeat (first | (with_reducible first | exact HB.out | apply below_alloc | apply pw_below_drewN | apply below_drew1) | exact HB.out)⟩
                  · rw [if_neg c32] at H
                    have c32b0 : (t602 == 0) = false := beq_eq_false_iff_ne.mpr c32
                    have c32b1 : (t602 != 0) = true := bne_iff_ne.mpr c32
                    obtain rfl := Option.some.inj H
                    go_enter Tryd.func8, Tryd.ntmps8
                    go_wp2_with (first | ((with_reducible refine gate_callee (f := 24) rfl ?_); refine goesL_ (some 12) rfl rfl Tryd.func24 (by kernel_rfl) rfl #[.slice A0 l0.length c0, .int .i64 40] rfl (by (try simp only [List.map_toArray, List.map_cons, List.map_nil]); first | done | rfl | (simp only [List.length_drop, List.length_take]; rfl)) ?_; (with_reducible refine (shuttleref01_Few.calls k _ _ l0 40 t591 _ ?side1 ?side2 A4.out).mono ?_); (case side1 => repeat (first | exact HR0.out | (with_reducible refine Kd.C_alloc ?_ _) | (with_reducible refine Kd.C_drewN ?_ _) | (with_reducible refine Kd.C_drew ?_))); (case side2 => exact HC0.out); rintro e w44 ⟨v592, rfl, ho0, hb⟩; refine ⟨_, rfl, ?_⟩; have n0_ := Aside0.mk (Kd.R_lower ho0 (below_size (by repeat (first | (with_reducible first | exact HB.out | apply below_alloc | apply pw_below_drewN | apply below_drew1) | exact HB.out)))); have n1_ := Aside0.mk (below_step (by repeat (first | (with_reducible first | exact HB.out | apply below_alloc | apply pw_below_drewN | apply below_drew1) | exact HB.out)) hb); clear HB; have HO593 := n0_; have HB := n1_; clear n0_ n1_; (try clear hb); (try clear hb2); (try clear hk); (try clear hi); (try clear ho0); obtain ⟨Ao45, co45, eo45⟩ := Kd.R_slice HO593.out; subst eo45) | ((with_reducible refine gate_callee (f := 21) rfl ?_); refine goesL_ (some 20) rfl rfl Tryd.func21 (by kernel_rfl) rfl #[.slice Ao45 t591.length co45, .int .i64 (wrap64 (Int.tmod (IntKind.u64.wrap (a1)) 4))] rfl (by (try simp only [List.map_toArray, List.map_cons, List.map_nil]); first | done | rfl | (simp only [List.length_drop, List.length_take]; rfl)) ?_; (with_reducible refine (version_Code.calls k _ _ t591 (wrap64 (Int.tmod (IntKind.u64.wrap (a1)) 4)) t594 t595 _ ?side1 ?side2 A5.out).mono ?_); (case side1 => repeat (first | exact (Kd.R_reads' HO593.out).2.2 | (with_reducible refine Kd.C_alloc ?_ _) | (with_reducible refine Kd.C_drewN ?_ _) | (with_reducible refine Kd.C_drew ?_))); (case side2 => exact (Kd.R_reads' HO593.out).2.1); rintro e w46 ⟨v596, rfl, ho0, hb⟩; refine ⟨_, rfl, ?_⟩; have n0_ := Aside0.mk (Kd.R_elder' (by (with_reducible repeat (first | apply Kd.R_alloc | apply Kd.R_drewN | apply Kd.R_drew)); exact HO593.out) (Kd.R_base ho0) hb); have n1_ := Aside0.mk (Kd.R_lower (Kd.R_new' ho0 (Kd.R_lt (by (with_reducible repeat (first | apply Kd.R_alloc | apply Kd.R_drewN | apply Kd.R_drew)); exact HO593.out))) (below_size (by repeat (first | (with_reducible first | exact HB.out | apply below_alloc | apply pw_below_drewN | apply below_drew1) | exact HB.out)))); have n2_ := Aside0.mk (below_step (by repeat (first | (with_reducible first | exact HB.out | apply below_alloc | apply pw_below_drewN | apply below_drew1) | exact HB.out)) hb); clear HO593; clear HB; have HO593 := n0_; have HO597 := n1_; have HB := n2_; clear n0_ n1_ n2_; (try clear hb); (try clear hb2); (try clear hk); (try clear hi); (try clear ho0)) | ((with_reducible refine gate_callee (f := 19) rfl ?_); refine goesL_ (some 23) rfl rfl Tryd.func19 (by kernel_rfl) rfl #[] rfl (by (try simp only [List.map_toArray, List.map_cons, List.map_nil]); first | done | rfl | (simp only [List.length_drop, List.length_take]; rfl)) ?_; (with_reducible refine (shuttlelaw11_splits.calls k  true _ A6.out).mono ?_); rintro e w47 ⟨rfl, hb⟩; refine ⟨_, rfl, ?_⟩; have n0_ := Aside0.mk (Kd.R_below (by (with_reducible repeat (first | apply Kd.R_alloc | apply Kd.R_drewN | apply Kd.R_drew)); exact HO593.out) hb); have n1_ := Aside0.mk (Kd.R_below (by (with_reducible repeat (first | apply Kd.R_alloc | apply Kd.R_drewN | apply Kd.R_drew)); exact HO597.out) hb); have n2_ := Aside0.mk (below_step (by repeat (first | (with_reducible first | exact HB.out | apply below_alloc | apply pw_below_drewN | apply below_drew1) | exact HB.out)) hb); clear HO593; clear HO597; clear HB; have HO593 := n0_; have HO597 := n1_; have HB := n2_; clear n0_ n1_ n2_; (try clear hb); (try clear hb2); (try clear hk); (try clear hi); obtain ⟨Ao48, co48, eo48⟩ := Kd.R_slice HO597.out; subst eo48; have p599 : 0 ≤ ((ji16) : Int) := of_decide_eq_true (by first | (with_reducible assumption) | assumption); have q599 : (ji16) < (t594.length : Int) := of_decide_eq_true (by first | (with_reducible assumption) | assumption); obtain ⟨ad599, e599, hx599_0⟩ := Kd.at_int (Kd.R_reads' HO597.out).2.2 (ji16) p599 q599; cases e599; replace p599 := eq_true p599; replace q599 := eq_true q599; have p19 : 0 ≤ ((ji16) : Int) := of_decide_eq_true (by first | (with_reducible assumption) | assumption); have q19 : ((ji16) : Int) < ((t594.length : Int) : Int) := of_decide_eq_true (by first | (with_reducible assumption) | assumption); obtain ⟨go19, co19, eo19, gb19, gl19, cl19, HG19⟩ := Kd.R_form HO597.out (by omega); (first | cases eo19 | (injection eo19 with ea_ en_ ec_; (first | subst ea_ | (injection ea_ with ea_; subst ea_)); subst ec_; clear en_)); have GB19 := Aside0.mk gb19; have GG19 := Aside0.mk HG19; clear gb19 gl19 HG19; (first | simp only [add_plain] at hx599_0 | skip); obtain ⟨hx19_0, hf19_0⟩ := Kd.R_celln 0 HO597.out ((ji16) : Int) p19 q19; replace p19 := eq_true p19; replace q19 := eq_true q19; have n_ := Aside0.mk (Kd.R_mono (ok' := (fun k_ => some k_ ≠ (.slice Ao45 t591.length co45 : Value).ownBlock)) HO597.out (fun k_ hk => hk.2)); clear HO597; have HO597 := n_; clear n_; obtain ⟨hy49_, hz49_⟩ := Kd.R_celln 0 HO597.out ((ji16) : Int) (of_decide_eq_true (by first | (with_reducible assumption) | assumption)) (of_decide_eq_true (by first | (with_reducible assumption) | assumption)); have HP49 := Kd.R_putg HO597.out ((ji16) : Int) (Go.bits .xor .u8 (rd t594 (ji16)) 1)) | ((with_reducible refine gate_store (t := 5) (p := 45) rfl ?_); refine store_event (t := 5) (p := 45) (v := ?vo_w50) (w1 := (w47.setCell ⟨go19, ((ji16) : Int).toNat, none⟩ (.int .u8 (Go.bits .xor .u8 (rd t594 (ji16)) 1)))) ?hg ?ho ?hn ?hr ?_; (case ho => rfl); (case hg => rfl); (case hn => rfl); (case hr => first | (go_simp; done) | (go_simp; rfl)); intro w50 hw; have hg : w47.grownBy w50 (some go19) := (by rw [hw]; exact HP49.2); have hp_ : Kd.R (Kd.int .u8) 5 w50 w.heap.size (fun k_ => some k_ ≠ (.slice Ao45 t591.length co45 : Value).ownBlock) (.slice (some ⟨go19, 0, none⟩) t594.length co48) y600 := (by rw [hw, Ny600.out]; exact HP49.1); clear HP49; have n0_ := Aside0.mk (Kd.R_after (v := (.slice (some ⟨go19, 0, none⟩) t594.length co48)) (v1 := (.slice (some ⟨go19, 0, none⟩) t594.length co48)) (ok := (fun _ => True)) (by (with_reducible repeat (first | apply Kd.R_alloc | apply Kd.R_drewN | apply Kd.R_drew)); exact HO593.out) hg (.inl rfl)); have n1_ := Aside0.mk (hp_); have n2_ := Aside0.mk ((by rw [hw]; exact below_set (HB.out) GB19.out : Below w.heap.size w w50)); clear HO593; clear HO597; clear HB; have HO593 := n0_; have HO597 := n1_; have HB := n2_; clear n0_ n1_ n2_; clear hg hw hp_) | ((with_reducible refine gate_callee (f := 18) rfl ?_); refine goesL_ (some 49) rfl rfl Tryd.func18 (by kernel_rfl) rfl #[.slice (some ⟨go19, 0, none⟩) y600.length co48, .int .i64 (wrap64 (Int.tmod (IntKind.u64.wrap (a1)) 4))] rfl (by (try simp only [List.map_toArray, List.map_cons, List.map_nil]); first | done | (rw [show y600.length = t594.length from (Kd.R_reads' HO597.out).1.symm] <;> rfl) | rfl | (simp only [List.length_drop, List.length_take]; rfl)) ?_; (with_reducible refine (version_Alone.calls k _ _ y600 (wrap64 (Int.tmod (IntKind.u64.wrap (a1)) 4)) t601 t602 _ ?side1 ?side2 A20.out).mono ?_); (case side1 => repeat (first | exact (Kd.R_reads' HO597.out).2.2 | (with_reducible refine Kd.C_alloc ?_ _) | (with_reducible refine Kd.C_drewN ?_ _) | (with_reducible refine Kd.C_drew ?_))); (case side2 => rw [show y600.length = t594.length from (Kd.R_reads' HO597.out).1.symm]; exact (Kd.R_reads' HO597.out).2.1); rintro e w51 ⟨v603, rfl, ho0, hb⟩; refine ⟨_, rfl, ?_⟩; have n0_ := Aside0.mk (Kd.R_elder' (by (with_reducible repeat (first | apply Kd.R_alloc | apply Kd.R_drewN | apply Kd.R_drew)); exact HO593.out) (Kd.R_base ho0) hb); have n1_ := Aside0.mk (Kd.R_elder' (by (with_reducible repeat (first | apply Kd.R_alloc | apply Kd.R_drewN | apply Kd.R_drew)); exact HO597.out) (Kd.R_base ho0) hb); have n2_ := Aside0.mk (Kd.R_lower (Kd.R_new' (Kd.R_new' ho0 (Kd.R_lt (by (with_reducible repeat (first | apply Kd.R_alloc | apply Kd.R_drewN | apply Kd.R_drew)); exact HO593.out))) (Kd.R_lt (by (with_reducible repeat (first | apply Kd.R_alloc | apply Kd.R_drewN | apply Kd.R_drew)); exact HO597.out))) (below_size (by repeat (first | (with_reducible first | exact HB.out | apply below_alloc | apply pw_below_drewN | apply below_drew1) | exact HB.out)))); have n3_ := Aside0.mk (below_step (by repeat (first | (with_reducible first | exact HB.out | apply below_alloc | apply pw_below_drewN | apply below_drew1) | exact HB.out)) hb); clear HO593; clear HO597; clear HB; have HO593 := n0_; have HO597 := n1_; have HO604 := n2_; have HB := n3_; clear n0_ n1_ n2_ n3_; (try clear hb); (try clear hb2); (try clear hk); (try clear hi); (try clear ho0); obtain ⟨Ao52, co52, eo52⟩ := Kd.R_slice HO604.out; subst eo52))
                    go_ret
                    exact ⟨by first | rfl | (simp [errW_none, errW_some] <;> rfl) | (simp only [← hji16]; first | rfl | (simp [errW_none, errW_some] <;> rfl)) | (simp [*, errW_none, errW_some] <;> rfl), by repeat (first | (with_reducible first | exact HB.out | apply below_alloc | apply pw_below_drewN | apply below_drew1) | exact HB.out)⟩
              · rw [if_neg c21] at H
                have c21b0 : (t602 == 13) = false := beq_eq_false_iff_ne.mpr c21
                have c21b1 : (t602 != 13) = true := bne_iff_ne.mpr c21
                by_cases c53 : t602 = 0
                · rw [if_pos c53] at H
                  have c53b0 : (t602 == 0) = true := beq_iff_eq.mpr c53
                  have c53b1 : (t602 != 0) = false := bne_eq_false_iff_eq.mpr c53
                  clear c53
                  obtain rfl := Option.some.inj H
                  go_enter Tryd.func8, Tryd.ntmps8
                  go_wp2_with (first | ((with_reducible refine gate_callee (f := 24) rfl ?_); refine goesL_ (some 12) rfl rfl Tryd.func24 (by kernel_rfl) rfl #[.slice A0 l0.length c0, .int .i64 40] rfl (by (try simp only [List.map_toArray, List.map_cons, List.map_nil]); first | done | rfl | (simp only [List.length_drop, List.length_take]; rfl)) ?_; (with_reducible refine (shuttleref01_Few.calls k _ _ l0 40 t591 _ ?side1 ?side2 A4.out).mono ?_); (case side1 => repeat (first | exact HR0.out | (with_reducible refine Kd.C_alloc ?_ _) | (with_reducible refine Kd.C_drewN ?_ _) | (with_reducible refine Kd.C_drew ?_))); (case side2 => exact HC0.out); rintro e w54 ⟨v592, rfl, ho0, hb⟩; refine ⟨_, rfl, ?_⟩; have n0_ := Aside0.mk (Kd.R_lower ho0 (below_size (by repeat (first | (with_reducible first | exact HB.out | apply below_alloc | apply pw_below_drewN | apply below_drew1) | exact HB.out)))); have n1_ := Aside0.mk (below_step (by repeat (first | (with_reducible first | exact HB.out | apply below_alloc | apply pw_below_drewN | apply below_drew1) | exact HB.out)) hb); clear HB; have HO593 := n0_; have HB := n1_; clear n0_ n1_; (try clear hb); (try clear hb2); (try clear hk); (try clear hi); (try clear ho0); obtain ⟨Ao55, co55, eo55⟩ := Kd.R_slice HO593.out; subst eo55) | ((with_reducible refine gate_callee (f := 21) rfl ?_); refine goesL_ (some 20) rfl rfl Tryd.func21 (by kernel_rfl) rfl #[.slice Ao55 t591.length co55, .int .i64 (wrap64 (Int.tmod (IntKind.u64.wrap (a1)) 4))] rfl (by (try simp only [List.map_toArray, List.map_cons, List.map_nil]); first | done | rfl | (simp only [List.length_drop, List.length_take]; rfl)) ?_; (with_reducible refine (version_Code.calls k _ _ t591 (wrap64 (Int.tmod (IntKind.u64.wrap (a1)) 4)) t594 t595 _ ?side1 ?side2 A5.out).mono ?_); (case side1 => repeat (first | exact (Kd.R_reads' HO593.out).2.2 | (with_reducible refine Kd.C_alloc ?_ _) | (with_reducible refine Kd.C_drewN ?_ _) | (with_reducible refine Kd.C_drew ?_))); (case side2 => exact (Kd.R_reads' HO593.out).2.1); rintro e w56 ⟨v596, rfl, ho0, hb⟩; refine ⟨_, rfl, ?_⟩; have n0_ := Aside0.mk (Kd.R_elder' (by (with_reducible repeat (first | apply Kd.R_alloc | apply Kd.R_drewN | apply Kd.R_drew)); exact HO593.out) (Kd.R_base ho0) hb); have n1_ := Aside0.mk (Kd.R_lower (Kd.R_new' ho0 (Kd.R_lt (by (with_reducible repeat (first | apply Kd.R_alloc | apply Kd.R_drewN | apply Kd.R_drew)); exact HO593.out))) (below_size (by repeat (first | (with_reducible first | exact HB.out | apply below_alloc | apply pw_below_drewN | apply below_drew1) | exact HB.out)))); have n2_ := Aside0.mk (below_step (by repeat (first | (with_reducible first | exact HB.out | apply below_alloc | apply pw_below_drewN | apply below_drew1) | exact HB.out)) hb); clear HO593; clear HB; have HO593 := n0_; have HO597 := n1_; have HB := n2_; clear n0_ n1_ n2_; (try clear hb); (try clear hb2); (try clear hk); (try clear hi); (try clear ho0)) | ((with_reducible refine gate_callee (f := 19) rfl ?_); refine goesL_ (some 23) rfl rfl Tryd.func19 (by kernel_rfl) rfl #[] rfl (by (try simp only [List.map_toArray, List.map_cons, List.map_nil]); first | done | rfl | (simp only [List.length_drop, List.length_take]; rfl)) ?_; (with_reducible refine (shuttlelaw11_splits.calls k  true _ A6.out).mono ?_); rintro e w57 ⟨rfl, hb⟩; refine ⟨_, rfl, ?_⟩; have n0_ := Aside0.mk (Kd.R_below (by (with_reducible repeat (first | apply Kd.R_alloc | apply Kd.R_drewN | apply Kd.R_drew)); exact HO593.out) hb); have n1_ := Aside0.mk (Kd.R_below (by (with_reducible repeat (first | apply Kd.R_alloc | apply Kd.R_drewN | apply Kd.R_drew)); exact HO597.out) hb); have n2_ := Aside0.mk (below_step (by repeat (first | (with_reducible first | exact HB.out | apply below_alloc | apply pw_below_drewN | apply below_drew1) | exact HB.out)) hb); clear HO593; clear HO597; clear HB; have HO593 := n0_; have HO597 := n1_; have HB := n2_; clear n0_ n1_ n2_; (try clear hb); (try clear hb2); (try clear hk); (try clear hi); obtain ⟨Ao58, co58, eo58⟩ := Kd.R_slice HO597.out; subst eo58; have p599 : 0 ≤ ((ji16) : Int) := of_decide_eq_true (by first | (with_reducible assumption) | assumption); have q599 : (ji16) < (t594.length : Int) := of_decide_eq_true (by first | (with_reducible assumption) | assumption); obtain ⟨ad599, e599, hx599_0⟩ := Kd.at_int (Kd.R_reads' HO597.out).2.2 (ji16) p599 q599; cases e599; replace p599 := eq_true p599; replace q599 := eq_true q599; have p19 : 0 ≤ ((ji16) : Int) := of_decide_eq_true (by first | (with_reducible assumption) | assumption); have q19 : ((ji16) : Int) < ((t594.length : Int) : Int) := of_decide_eq_true (by first | (with_reducible assumption) | assumption); obtain ⟨go19, co19, eo19, gb19, gl19, cl19, HG19⟩ := Kd.R_form HO597.out (by omega); (first | cases eo19 | (injection eo19 with ea_ en_ ec_; (first | subst ea_ | (injection ea_ with ea_; subst ea_)); subst ec_; clear en_)); have GB19 := Aside0.mk gb19; have GG19 := Aside0.mk HG19; clear gb19 gl19 HG19; (first | simp only [add_plain] at hx599_0 | skip); obtain ⟨hx19_0, hf19_0⟩ := Kd.R_celln 0 HO597.out ((ji16) : Int) p19 q19; replace p19 := eq_true p19; replace q19 := eq_true q19; have n_ := Aside0.mk (Kd.R_mono (ok' := (fun k_ => some k_ ≠ (.slice Ao55 t591.length co55 : Value).ownBlock)) HO597.out (fun k_ hk => hk.2)); clear HO597; have HO597 := n_; clear n_; obtain ⟨hy59_, hz59_⟩ := Kd.R_celln 0 HO597.out ((ji16) : Int) (of_decide_eq_true (by first | (with_reducible assumption) | assumption)) (of_decide_eq_true (by first | (with_reducible assumption) | assumption)); have HP59 := Kd.R_putg HO597.out ((ji16) : Int) (Go.bits .xor .u8 (rd t594 (ji16)) 1)) | ((with_reducible refine gate_store (t := 5) (p := 45) rfl ?_); refine store_event (t := 5) (p := 45) (v := ?vo_w60) (w1 := (w57.setCell ⟨go19, ((ji16) : Int).toNat, none⟩ (.int .u8 (Go.bits .xor .u8 (rd t594 (ji16)) 1)))) ?hg ?ho ?hn ?hr ?_; (case ho => rfl); (case hg => rfl); (case hn => rfl); (case hr => first | (go_simp; done) | (go_simp; rfl)); intro w60 hw; have hg : w57.grownBy w60 (some go19) := (by rw [hw]; exact HP59.2); have hp_ : Kd.R (Kd.int .u8) 5 w60 w.heap.size (fun k_ => some k_ ≠ (.slice Ao55 t591.length co55 : Value).ownBlock) (.slice (some ⟨go19, 0, none⟩) t594.length co58) y600 := (by rw [hw, Ny600.out]; exact HP59.1); clear HP59; have n0_ := Aside0.mk (Kd.R_after (v := (.slice (some ⟨go19, 0, none⟩) t594.length co58)) (v1 := (.slice (some ⟨go19, 0, none⟩) t594.length co58)) (ok := (fun _ => True)) (by (with_reducible repeat (first | apply Kd.R_alloc | apply Kd.R_drewN | apply Kd.R_drew)); exact HO593.out) hg (.inl rfl)); have n1_ := Aside0.mk (hp_); have n2_ := Aside0.mk ((by rw [hw]; exact below_set (HB.out) GB19.out : Below w.heap.size w w60)); clear HO593; clear HO597; clear HB; have HO593 := n0_; have HO597 := n1_; have HB := n2_; clear n0_ n1_ n2_; clear hg hw hp_) | ((with_reducible refine gate_callee (f := 18) rfl ?_); refine goesL_ (some 49) rfl rfl Tryd.func18 (by kernel_rfl) rfl #[.slice (some ⟨go19, 0, none⟩) y600.length co58, .int .i64 (wrap64 (Int.tmod (IntKind.u64.wrap (a1)) 4))] rfl (by (try simp only [List.map_toArray, List.map_cons, List.map_nil]); first | done | (rw [show y600.length = t594.length from (Kd.R_reads' HO597.out).1.symm] <;> rfl) | rfl | (simp only [List.length_drop, List.length_take]; rfl)) ?_; (with_reducible refine (version_Alone.calls k _ _ y600 (wrap64 (Int.tmod (IntKind.u64.wrap (a1)) 4)) t601 t602 _ ?side1 ?side2 A20.out).mono ?_); (case side1 => repeat (first | exact (Kd.R_reads' HO597.out).2.2 | (with_reducible refine Kd.C_alloc ?_ _) | (with_reducible refine Kd.C_drewN ?_ _) | (with_reducible refine Kd.C_drew ?_))); (case side2 => rw [show y600.length = t594.length from (Kd.R_reads' HO597.out).1.symm]; exact (Kd.R_reads' HO597.out).2.1); rintro e w61 ⟨v603, rfl, ho0, hb⟩; refine ⟨_, rfl, ?_⟩; have n0_ := Aside0.mk (Kd.R_elder' (by (with_reducible repeat (first | apply Kd.R_alloc | apply Kd.R_drewN | apply Kd.R_drew)); exact HO593.out) (Kd.R_base ho0) hb); have n1_ := Aside0.mk (Kd.R_elder' (by (with_reducible repeat (first | apply Kd.R_alloc | apply Kd.R_drewN | apply Kd.R_drew)); exact HO597.out) (Kd.R_base ho0) hb); have n2_ := Aside0.mk (Kd.R_lower (Kd.R_new' (Kd.R_new' ho0 (Kd.R_lt (by (with_reducible repeat (first | apply Kd.R_alloc | apply Kd.R_drewN | apply Kd.R_drew)); exact HO593.out))) (Kd.R_lt (by (with_reducible repeat (first | apply Kd.R_alloc | apply Kd.R_drewN | apply Kd.R_drew)); exact HO597.out))) (below_size (by repeat (first | (with_reducible first | exact HB.out | apply below_alloc | apply pw_below_drewN | apply below_drew1) | exact HB.out)))); have n3_ := Aside0.mk (below_step (by repeat (first | (with_reducible first | exact HB.out | apply below_alloc | apply pw_below_drewN | apply below_drew1) | exact HB.out)) hb); clear HO593; clear HO597; clear HB; have HO593 := n0_; have HO597 := n1_; have HO604 := n2_; have HB := n3_; clear n0_ n1_ n2_ n3_; (try clear hb); (try clear hb2); (try clear hk); (try clear hi); (try clear ho0); have hcv62 := own_string (P := Tryd.prog) Tryd.underlying35 Tryd.underlying5 Tryd.underlying9 (Kd.own_of_R HO604.out); have hcv63 := own_string (P := Tryd.prog) Tryd.underlying35 Tryd.underlying5 Tryd.underlying9 (Kd.own_of_R HO593.out)))
                  go_ret
                  exact ⟨by first | rfl | (simp [errW_none, errW_some] <;> rfl) | (simp only [← hji16]; first | rfl | (simp [errW_none, errW_some] <;> rfl)) | (simp [*, errW_none, errW_some] <;> rfl), by repeat (first | (with_reducible first | exact HB.out | apply below_alloc | apply pw_below_drewN | apply below_drew1) | exact HB.out)⟩
                · rw [if_neg c53] at H
                  have c53b0 : (t602 == 0) = false := beq_eq_false_iff_ne.mpr c53
                  have c53b1 : (t602 != 0) = true := bne_iff_ne.mpr c53
                  obtain rfl := Option.some.inj H
                  go_enter Tryd.func8, Tryd.ntmps8
                  go_wp2_with (first | ((with_reducible refine gate_callee (f := 24) rfl ?_); refine goesL_ (some 12) rfl rfl Tryd.func24 (by kernel_rfl) rfl #[.slice A0 l0.length c0, .int .i64 40] rfl (by (try simp only [List.map_toArray, List.map_cons, List.map_nil]); first | done | rfl | (simp only [List.length_drop, List.length_take]; rfl)) ?_; (with_reducible refine (shuttleref01_Few.calls k _ _ l0 40 t591 _ ?side1 ?side2 A4.out).mono ?_); (case side1 => repeat (first | exact HR0.out | (with_reducible refine Kd.C_alloc ?_ _) | (with_reducible refine Kd.C_drewN ?_ _) | (with_reducible refine Kd.C_drew ?_))); (case side2 => exact HC0.out); rintro e w64 ⟨v592, rfl, ho0, hb⟩; refine ⟨_, rfl, ?_⟩; have n0_ := Aside0.mk (Kd.R_lower ho0 (below_size (by repeat (first | (with_reducible first | exact HB.out | apply below_alloc | apply pw_below_drewN | apply below_drew1) | exact HB.out)))); have n1_ := Aside0.mk (below_step (by repeat (first | (with_reducible first | exact HB.out | apply below_alloc | apply pw_below_drewN | apply below_drew1) | exact HB.out)) hb); clear HB; have HO593 := n0_; have HB := n1_; clear n0_ n1_; (try clear hb); (try clear hb2); (try clear hk); (try clear hi); (try clear ho0); obtain ⟨Ao65, co65, eo65⟩ := Kd.R_slice HO593.out; subst eo65) | ((with_reducible refine gate_callee (f := 21) rfl ?_); refine goesL_ (some 20) rfl rfl Tryd.func21 (by kernel_rfl) rfl #[.slice Ao65 t591.length co65, .int .i64 (wrap64 (Int.tmod (IntKind.u64.wrap (a1)) 4))] rfl (by (try simp only [List.map_toArray, List.map_cons, List.map_nil]); first | done | rfl | (simp only [List.length_drop, List.length_take]; rfl)) ?_; (with_reducible refine (version_Code.calls k _ _ t591 (wrap64 (Int.tmod (IntKind.u64.wrap (a1)) 4)) t594 t595 _ ?side1 ?side2 A5.out).mono ?_); (case side1 => repeat (first | exact (Kd.R_reads' HO593.out).2.2 | (with_reducible refine Kd.C_alloc ?_ _) | (with_reducible refine Kd.C_drewN ?_ _) | (with_reducible refine Kd.C_drew ?_))); (case side2 => exact (Kd.R_reads' HO593.out).2.1); rintro e w66 ⟨v596, rfl, ho0, hb⟩; refine ⟨_, rfl, ?_⟩; have n0_ := Aside0.mk (Kd.R_elder' (by (with_reducible repeat (first | apply Kd.R_alloc | apply Kd.R_drewN | apply Kd.R_drew)); exact HO593.out) (Kd.R_base ho0) hb); have n1_ := Aside0.mk (Kd.R_lower (Kd.R_new' ho0 (Kd.R_lt (by (with_reducible repeat (first | apply Kd.R_alloc | apply Kd.R_drewN | apply Kd.R_drew)); exact HO593.out))) (below_size (by repeat (first | (with_reducible first | exact HB.out | apply below_alloc | apply pw_below_drewN | apply below_drew1) | exact HB.out)))); have n2_ := Aside0.mk (below_step (by repeat (first | (with_reducible first | exact HB.out | apply below_alloc | apply pw_below_drewN | apply below_drew1) | exact HB.out)) hb); clear HO593; clear HB; have HO593 := n0_; have HO597 := n1_; have HB := n2_; clear n0_ n1_ n2_; (try clear hb); (try clear hb2); (try clear hk); (try clear hi); (try clear ho0)) | ((with_reducible refine gate_callee (f := 19) rfl ?_); refine goesL_ (some 23) rfl rfl Tryd.func19 (by kernel_rfl) rfl #[] rfl (by (try simp only [List.map_toArray, List.map_cons, List.map_nil]); first | done | rfl | (simp only [List.length_drop, List.length_take]; rfl)) ?_; (with_reducible refine (shuttlelaw11_splits.calls k  true _ A6.out).mono ?_); rintro e w67 ⟨rfl, hb⟩; refine ⟨_, rfl, ?_⟩; have n0_ := Aside0.mk (Kd.R_below (by (with_reducible repeat (first | apply Kd.R_alloc | apply Kd.R_drewN | apply Kd.R_drew)); exact HO593.out) hb); have n1_ := Aside0.mk (Kd.R_below (by (with_reducible repeat (first | apply Kd.R_alloc | apply Kd.R_drewN | apply Kd.R_drew)); exact HO597.out) hb); have n2_ := Aside0.mk (below_step (by repeat (first | (with_reducible first | exact HB.out | apply below_alloc | apply pw_below_drewN | apply below_drew1) | exact HB.out)) hb); clear HO593; clear HO597; clear HB; have HO593 := n0_; have HO597 := n1_; have HB := n2_; clear n0_ n1_ n2_; (try clear hb); (try clear hb2); (try clear hk); (try clear hi); obtain ⟨Ao68, co68, eo68⟩ := Kd.R_slice HO597.out; subst eo68; have p599 : 0 ≤ ((ji16) : Int) := of_decide_eq_true (by first | (with_reducible assumption) | assumption); have q599 : (ji16) < (t594.length : Int) := of_decide_eq_true (by first | (with_reducible assumption) | assumption); obtain ⟨ad599, e599, hx599_0⟩ := Kd.at_int (Kd.R_reads' HO597.out).2.2 (ji16) p599 q599; cases e599; replace p599 := eq_true p599; replace q599 := eq_true q599; have p19 : 0 ≤ ((ji16) : Int) := of_decide_eq_true (by first | (with_reducible assumption) | assumption); have q19 : ((ji16) : Int) < ((t594.length : Int) : Int) := of_decide_eq_true (by first | (with_reducible assumption) | assumption); obtain ⟨go19, co19, eo19, gb19, gl19, cl19, HG19⟩ := Kd.R_form HO597.out (by omega); (first | cases eo19 | (injection eo19 with ea_ en_ ec_; (first | subst ea_ | (injection ea_ with ea_; subst ea_)); subst ec_; clear en_)); have GB19 := Aside0.mk gb19; have GG19 := Aside0.mk HG19; clear gb19 gl19 HG19; (first | simp only [add_plain] at hx599_0 | skip); obtain ⟨hx19_0, hf19_0⟩ := Kd.R_celln 0 HO597.out ((ji16) : Int) p19 q19; replace p19 := eq_true p19; replace q19 := eq_true q19; have n_ := Aside0.mk (Kd.R_mono (ok' := (fun k_ => some k_ ≠ (.slice Ao65 t591.length co65 : Value).ownBlock)) HO597.out (fun k_ hk => hk.2)); clear HO597; have HO597 := n_; clear n_; obtain ⟨hy69_, hz69_⟩ := Kd.R_celln 0 HO597.out ((ji16) : Int) (of_decide_eq_true (by first | (with_reducible assumption) | assumption)) (of_decide_eq_true (by first | (with_reducible assumption) | assumption)); have HP69 := Kd.R_putg HO597.out ((ji16) : Int) (Go.bits .xor .u8 (rd t594 (ji16)) 1)) | ((with_reducible refine gate_store (t := 5) (p := 45) rfl ?_); refine store_event (t := 5) (p := 45) (v := ?vo_w70) (w1 := (w67.setCell ⟨go19, ((ji16) : Int).toNat, none⟩ (.int .u8 (Go.bits .xor .u8 (rd t594 (ji16)) 1)))) ?hg ?ho ?hn ?hr ?_; (case ho => rfl); (case hg => rfl); (case hn => rfl); (case hr => first | (go_simp; done) | (go_simp; rfl)); intro w70 hw; have hg : w67.grownBy w70 (some go19) := (by rw [hw]; exact HP69.2); have hp_ : Kd.R (Kd.int .u8) 5 w70 w.heap.size (fun k_ => some k_ ≠ (.slice Ao65 t591.length co65 : Value).ownBlock) (.slice (some ⟨go19, 0, none⟩) t594.length co68) y600 := (by rw [hw, Ny600.out]; exact HP69.1); clear HP69; have n0_ := Aside0.mk (Kd.R_after (v := (.slice (some ⟨go19, 0, none⟩) t594.length co68)) (v1 := (.slice (some ⟨go19, 0, none⟩) t594.length co68)) (ok := (fun _ => True)) (by (with_reducible repeat (first | apply Kd.R_alloc | apply Kd.R_drewN | apply Kd.R_drew)); exact HO593.out) hg (.inl rfl)); have n1_ := Aside0.mk (hp_); have n2_ := Aside0.mk ((by rw [hw]; exact below_set (HB.out) GB19.out : Below w.heap.size w w70)); clear HO593; clear HO597; clear HB; have HO593 := n0_; have HO597 := n1_; have HB := n2_; clear n0_ n1_ n2_; clear hg hw hp_) | ((with_reducible refine gate_callee (f := 18) rfl ?_); refine goesL_ (some 49) rfl rfl Tryd.func18 (by kernel_rfl) rfl #[.slice (some ⟨go19, 0, none⟩) y600.length co68, .int .i64 (wrap64 (Int.tmod (IntKind.u64.wrap (a1)) 4))] rfl (by (try simp only [List.map_toArray, List.map_cons, List.map_nil]); first | done | (rw [show y600.length = t594.length from (Kd.R_reads' HO597.out).1.symm] <;> rfl) | rfl | (simp only [List.length_drop, List.length_take]; rfl)) ?_; (with_reducible refine (version_Alone.calls k _ _ y600 (wrap64 (Int.tmod (IntKind.u64.wrap (a1)) 4)) t601 t602 _ ?side1 ?side2 A20.out).mono ?_); (case side1 => repeat (first | exact (Kd.R_reads' HO597.out).2.2 | (with_reducible refine Kd.C_alloc ?_ _) | (with_reducible refine Kd.C_drewN ?_ _) | (with_reducible refine Kd.C_drew ?_))); (case side2 => rw [show y600.length = t594.length from (Kd.R_reads' HO597.out).1.symm]; exact (Kd.R_reads' HO597.out).2.1); rintro e w71 ⟨v603, rfl, ho0, hb⟩; refine ⟨_, rfl, ?_⟩; have n0_ := Aside0.mk (Kd.R_elder' (by (with_reducible repeat (first | apply Kd.R_alloc | apply Kd.R_drewN | apply Kd.R_drew)); exact HO593.out) (Kd.R_base ho0) hb); have n1_ := Aside0.mk (Kd.R_elder' (by (with_reducible repeat (first | apply Kd.R_alloc | apply Kd.R_drewN | apply Kd.R_drew)); exact HO597.out) (Kd.R_base ho0) hb); have n2_ := Aside0.mk (Kd.R_lower (Kd.R_new' (Kd.R_new' ho0 (Kd.R_lt (by (with_reducible repeat (first | apply Kd.R_alloc | apply Kd.R_drewN | apply Kd.R_drew)); exact HO593.out))) (Kd.R_lt (by (with_reducible repeat (first | apply Kd.R_alloc | apply Kd.R_drewN | apply Kd.R_drew)); exact HO597.out))) (below_size (by repeat (first | (with_reducible first | exact HB.out | apply below_alloc | apply pw_below_drewN | apply below_drew1) | exact HB.out)))); have n3_ := Aside0.mk (below_step (by repeat (first | (with_reducible first | exact HB.out | apply below_alloc | apply pw_below_drewN | apply below_drew1) | exact HB.out)) hb); clear HO593; clear HO597; clear HB; have HO593 := n0_; have HO597 := n1_; have HO604 := n2_; have HB := n3_; clear n0_ n1_ n2_ n3_; (try clear hb); (try clear hb2); (try clear hk); (try clear hi); (try clear ho0)))
                  go_ret
                  exact ⟨by first | rfl | (simp [errW_none, errW_some] <;> rfl) | (simp only [← hji16]; first | rfl | (simp [errW_none, errW_some] <;> rfl)) | (simp [*, errW_none, errW_some] <;> rfl), by repeat (first | (with_reducible first | exact HB.out | apply below_alloc | apply pw_below_drewN | apply below_drew1) | exact HB.out)⟩
            · rw [if_neg c18] at H
              exact absurd H (by simp)
          · rw [if_neg c17] at H
            exact absurd H (by simp)
    · rw [if_neg c8] at H
      have c8b0 : (t595 == 0) = false := beq_eq_false_iff_ne.mpr c8
      have c8b1 : (t595 != 0) = true := bne_iff_ne.mpr c8
      obtain rfl := Option.some.inj H
      go_enter Tryd.func8, Tryd.ntmps8
      go_wp2_with (first | ((with_reducible refine gate_callee (f := 24) rfl ?_); refine goesL_ (some 12) rfl rfl Tryd.func24 (by kernel_rfl) rfl #[.slice A0 l0.length c0, .int .i64 40] rfl (by (try simp only [List.map_toArray, List.map_cons, List.map_nil]); first | done | rfl | (simp only [List.length_drop, List.length_take]; rfl)) ?_; (with_reducible refine (shuttleref01_Few.calls k _ _ l0 40 t591 _ ?side1 ?side2 A4.out).mono ?_); (case side1 => repeat (first | exact HR0.out | (with_reducible refine Kd.C_alloc ?_ _) | (with_reducible refine Kd.C_drewN ?_ _) | (with_reducible refine Kd.C_drew ?_))); (case side2 => exact HC0.out); rintro e w72 ⟨v592, rfl, ho0, hb⟩; refine ⟨_, rfl, ?_⟩; have n0_ := Aside0.mk (Kd.R_lower ho0 (below_size (by repeat (first | (with_reducible first | exact HB.out | apply below_alloc | apply pw_below_drewN | apply below_drew1) | exact HB.out)))); have n1_ := Aside0.mk (below_step (by repeat (first | (with_reducible first | exact HB.out | apply below_alloc | apply pw_below_drewN | apply below_drew1) | exact HB.out)) hb); clear HB; have HO593 := n0_; have HB := n1_; clear n0_ n1_; (try clear hb); (try clear hb2); (try clear hk); (try clear hi); (try clear ho0); obtain ⟨Ao73, co73, eo73⟩ := Kd.R_slice HO593.out; subst eo73) | ((with_reducible refine gate_callee (f := 21) rfl ?_); refine goesL_ (some 20) rfl rfl Tryd.func21 (by kernel_rfl) rfl #[.slice Ao73 t591.length co73, .int .i64 (wrap64 (Int.tmod (IntKind.u64.wrap (a1)) 4))] rfl (by (try simp only [List.map_toArray, List.map_cons, List.map_nil]); first | done | rfl | (simp only [List.length_drop, List.length_take]; rfl)) ?_; (with_reducible refine (version_Code.calls k _ _ t591 (wrap64 (Int.tmod (IntKind.u64.wrap (a1)) 4)) t594 t595 _ ?side1 ?side2 A5.out).mono ?_); (case side1 => repeat (first | exact (Kd.R_reads' HO593.out).2.2 | (with_reducible refine Kd.C_alloc ?_ _) | (with_reducible refine Kd.C_drewN ?_ _) | (with_reducible refine Kd.C_drew ?_))); (case side2 => exact (Kd.R_reads' HO593.out).2.1); rintro e w74 ⟨v596, rfl, ho0, hb⟩; refine ⟨_, rfl, ?_⟩; have n0_ := Aside0.mk (Kd.R_elder' (by (with_reducible repeat (first | apply Kd.R_alloc | apply Kd.R_drewN | apply Kd.R_drew)); exact HO593.out) (Kd.R_base ho0) hb); have n1_ := Aside0.mk (Kd.R_lower (Kd.R_new' ho0 (Kd.R_lt (by (with_reducible repeat (first | apply Kd.R_alloc | apply Kd.R_drewN | apply Kd.R_drew)); exact HO593.out))) (below_size (by repeat (first | (with_reducible first | exact HB.out | apply below_alloc | apply pw_below_drewN | apply below_drew1) | exact HB.out)))); have n2_ := Aside0.mk (below_step (by repeat (first | (with_reducible first | exact HB.out | apply below_alloc | apply pw_below_drewN | apply below_drew1) | exact HB.out)) hb); clear HO593; clear HB; have HO593 := n0_; have HO597 := n1_; have HB := n2_; clear n0_ n1_ n2_; (try clear hb); (try clear hb2); (try clear hk); (try clear hi); (try clear ho0)) | ((with_reducible refine gate_callee (f := 19) rfl ?_); refine goesL_ (some 23) rfl rfl Tryd.func19 (by kernel_rfl) rfl #[] rfl (by (try simp only [List.map_toArray, List.map_cons, List.map_nil]); first | done | rfl | (simp only [List.length_drop, List.length_take]; rfl)) ?_; (with_reducible refine (shuttlelaw11_splits.calls k  true _ A6.out).mono ?_); rintro e w75 ⟨rfl, hb⟩; refine ⟨_, rfl, ?_⟩; have n0_ := Aside0.mk (Kd.R_below (by (with_reducible repeat (first | apply Kd.R_alloc | apply Kd.R_drewN | apply Kd.R_drew)); exact HO593.out) hb); have n1_ := Aside0.mk (Kd.R_below (by (with_reducible repeat (first | apply Kd.R_alloc | apply Kd.R_drewN | apply Kd.R_drew)); exact HO597.out) hb); have n2_ := Aside0.mk (below_step (by repeat (first | (with_reducible first | exact HB.out | apply below_alloc | apply pw_below_drewN | apply below_drew1) | exact HB.out)) hb); clear HO593; clear HO597; clear HB; have HO593 := n0_; have HO597 := n1_; have HB := n2_; clear n0_ n1_ n2_; (try clear hb); (try clear hb2); (try clear hk); (try clear hi)))
      go_ret
      exact ⟨by first | rfl | (simp [errW_none, errW_some] <;> rfl) | (simp [*, errW_none, errW_some] <;> rfl), by repeat (first | (with_reducible first | exact HB.out | apply below_alloc | apply pw_below_drewN | apply below_drew1) | exact HB.out)⟩
  · replace c7 := Bool.eq_false_iff.mpr c7
    subst c7
    have H1 : (some false) = some r := by rw [if_neg (show ¬ (false = true) by decide)] at H; exact H
    clear H
    have H := H1
    clear H1
    obtain rfl := Option.some.inj H
    go_enter Tryd.func8, Tryd.ntmps8
    go_wp2_with (first | ((with_reducible refine gate_callee (f := 24) rfl ?_); refine goesL_ (some 12) rfl rfl Tryd.func24 (by kernel_rfl) rfl #[.slice A0 l0.length c0, .int .i64 40] rfl (by (try simp only [List.map_toArray, List.map_cons, List.map_nil]); first | done | rfl | (simp only [List.length_drop, List.length_take]; rfl)) ?_; (with_reducible refine (shuttleref01_Few.calls k _ _ l0 40 t591 _ ?side1 ?side2 A4.out).mono ?_); (case side1 => repeat (first | exact HR0.out | (with_reducible refine Kd.C_alloc ?_ _) | (with_reducible refine Kd.C_drewN ?_ _) | (with_reducible refine Kd.C_drew ?_))); (case side2 => exact HC0.out); rintro e w76 ⟨v592, rfl, ho0, hb⟩; refine ⟨_, rfl, ?_⟩; have n0_ := Aside0.mk (Kd.R_lower ho0 (below_size (by repeat (first | (with_reducible first | exact HB.out | apply below_alloc | apply pw_below_drewN | apply below_drew1) | exact HB.out)))); have n1_ := Aside0.mk (below_step (by repeat (first | (with_reducible first | exact HB.out | apply below_alloc | apply pw_below_drewN | apply below_drew1) | exact HB.out)) hb); clear HB; have HO593 := n0_; have HB := n1_; clear n0_ n1_; (try clear hb); (try clear hb2); (try clear hk); (try clear hi); (try clear ho0); obtain ⟨Ao77, co77, eo77⟩ := Kd.R_slice HO593.out; subst eo77) | ((with_reducible refine gate_callee (f := 21) rfl ?_); refine goesL_ (some 20) rfl rfl Tryd.func21 (by kernel_rfl) rfl #[.slice Ao77 t591.length co77, .int .i64 (wrap64 (Int.tmod (IntKind.u64.wrap (a1)) 4))] rfl (by (try simp only [List.map_toArray, List.map_cons, List.map_nil]); first | done | rfl | (simp only [List.length_drop, List.length_take]; rfl)) ?_; (with_reducible refine (version_Code.calls k _ _ t591 (wrap64 (Int.tmod (IntKind.u64.wrap (a1)) 4)) t594 t595 _ ?side1 ?side2 A5.out).mono ?_); (case side1 => repeat (first | exact (Kd.R_reads' HO593.out).2.2 | (with_reducible refine Kd.C_alloc ?_ _) | (with_reducible refine Kd.C_drewN ?_ _) | (with_reducible refine Kd.C_drew ?_))); (case side2 => exact (Kd.R_reads' HO593.out).2.1); rintro e w78 ⟨v596, rfl, ho0, hb⟩; refine ⟨_, rfl, ?_⟩; have n0_ := Aside0.mk (Kd.R_elder' (by (with_reducible repeat (first | apply Kd.R_alloc | apply Kd.R_drewN | apply Kd.R_drew)); exact HO593.out) (Kd.R_base ho0) hb); have n1_ := Aside0.mk (Kd.R_lower (Kd.R_new' ho0 (Kd.R_lt (by (with_reducible repeat (first | apply Kd.R_alloc | apply Kd.R_drewN | apply Kd.R_drew)); exact HO593.out))) (below_size (by repeat (first | (with_reducible first | exact HB.out | apply below_alloc | apply pw_below_drewN | apply below_drew1) | exact HB.out)))); have n2_ := Aside0.mk (below_step (by repeat (first | (with_reducible first | exact HB.out | apply below_alloc | apply pw_below_drewN | apply below_drew1) | exact HB.out)) hb); clear HO593; clear HB; have HO593 := n0_; have HO597 := n1_; have HB := n2_; clear n0_ n1_ n2_; (try clear hb); (try clear hb2); (try clear hk); (try clear hi); (try clear ho0)) | ((with_reducible refine gate_callee (f := 19) rfl ?_); refine goesL_ (some 23) rfl rfl Tryd.func19 (by kernel_rfl) rfl #[] rfl (by (try simp only [List.map_toArray, List.map_cons, List.map_nil]); first | done | rfl | (simp only [List.length_drop, List.length_take]; rfl)) ?_; (with_reducible refine (shuttlelaw11_splits.calls k  false _ A6.out).mono ?_); rintro e w79 ⟨rfl, hb⟩; refine ⟨_, rfl, ?_⟩; have n0_ := Aside0.mk (Kd.R_below (by (with_reducible repeat (first | apply Kd.R_alloc | apply Kd.R_drewN | apply Kd.R_drew)); exact HO593.out) hb); have n1_ := Aside0.mk (Kd.R_below (by (with_reducible repeat (first | apply Kd.R_alloc | apply Kd.R_drewN | apply Kd.R_drew)); exact HO597.out) hb); have n2_ := Aside0.mk (below_step (by repeat (first | (with_reducible first | exact HB.out | apply below_alloc | apply pw_below_drewN | apply below_drew1) | exact HB.out)) hb); clear HO593; clear HO597; clear HB; have HO593 := n0_; have HO597 := n1_; have HB := n2_; clear n0_ n1_ n2_; (try clear hb); (try clear hb2); (try clear hk); (try clear hi)))
    go_ret
    exact ⟨by first | rfl | (simp [errW_none, errW_some] <;> rfl) | (simp [*, errW_none, errW_some] <;> rfl), by repeat (first | (with_reducible first | exact HB.out | apply below_alloc | apply pw_below_drewN | apply below_drew1) | exact HB.out)⟩

/-- THE ONE PURE STATEMENT of shuttlelaw11_VersionTurned: yours. -/
def shuttlelaw11_VersionTurned.Pure : Prop := ∀ (l0 : List Int) (a1 : Int) (a2 : Int), l0.length ≤ maxLen → l0.length * 1 ≤ 140737488351232 → (∀ x ∈ l0, (Lit.int .u8 x).wf = true) → (Lit.int .i64 a1).wf = true → (Lit.int .i64 a2).wf = true → ∃ k, shuttlelaw11_VersionTurned.f k l0 a1 a2 = some true
theorem shuttlelaw11_VersionTurned.walk (P : shuttlelaw11_VersionTurned.Pure) (a0 : Option Addr) (len0 cap0 : Nat) (z0 : List Int) (a1 : Int) (a2 : Int) (w : World) (w0 : (a0 = none ∧ len0 = 0 ∧ cap0 = 0 ∧ z0 = []) ∨ ∃ x, a0 = some x ∧ len0 ≤ cap0 ∧ cap0 ≤ maxLen ∧ z0.length = cap0 ∧ (∀ i, i < z0.length → w.cell? (x.add i) = some (.int .u8 (z0.getD i 0))) ∧ ∀ n ∈ z0, (Lit.int .u8 n).wf = true) (y0 : len0 * 1 ≤ 140737488351232) (w1 : (Lit.int .i64 a1).wf = true) (w2 : (Lit.int .i64 a2).wf = true) (hT_ : TP w := by first | assumption | exact TP_of (by assumption : TP _) (by repeat (first | (with_reducible first | apply below_alloc | apply pw_below_drewN | apply below_drew1 | refine below_set ?_ (Aside0.out (by assumption))) | exact Aside0.out (by assumption) | exact Below.refl _ _))) :
    Calls Tryd.prog 8 #[.slice a0 len0 cap0, .int .i64 a1, .int .i64 a2] w fun e w' => e = .returned (.bool true) ∧ Below w.heap.size w w' := by
  obtain ⟨l0, rfl, hr0, hm0, hw0, hc0⟩ := ReadsInt.ofRowC w0
  obtain ⟨k, h⟩ := P l0 a1 a2 hm0 y0 hw0 w1 w2
  refine (shuttlelaw11_VersionTurned.calls k _ _ l0 a1 a2 true w (Kd.C_of_reads (d := (0 : Int)) (h1 := fun _ => rfl) hr0) hc0 h).mono ?_
  rintro e w' ⟨rfl, hd⟩
  exact ⟨rfl, hd⟩

end Go.Proofs.YtmajbcglpcagoaaDoor.X

-- YtmajbcglpcagoaaDoorXPlain
namespace Go.Proofs.YtmajbcglpcagoaaDoor.X
open Go.RowKit Go.Proofs.YtmajbcglpcagoaaDoorW.PrintWords Go.Proofs.YtmajbcglpcagoaaDoorW.PrintLast Go.Proofs.YtmajbcglpcagoaaDoorW.PrintMore
set_option linter.unusedVariables false

theorem rd_get (l : List Int) (i : Nat) (h : i < l.length) : rd l (i : Int) = l[i] := by
  unfold rd
  simp [List.getD_eq_getElem?_getD, h]
theorem rd_getD (l : List Int) (i : Nat) : rd l (i : Int) = l.getD i 0 := by
  unfold rd; simp
theorem wrap_in {n : Int} (h0 : -9223372036854775808 ≤ n) (h1 : n ≤ 9223372036854775807) : wrap64 n = n := by
  unfold wrap64; omega
theorem wrap_succ (i : Nat) (h : (i : Int) < 9223372036854775807) : wrap64 ((i : Int) + 1) = ((i + 1 : Nat) : Int) := by
  rw [wrap_in (by omega) (by omega)]; omega
theorem u8_of_wf {l : List Int} (h : ∀ x ∈ l, (Lit.int .u8 x).wf = true) : ∀ x ∈ l, 0 ≤ x ∧ x ≤ 255 := fun x hx => Go.bounds_u8 (h x hx)
theorem i64_of_wf {l : List Int} (h : ∀ x ∈ l, (Lit.int .i64 x).wf = true) : ∀ x ∈ l, -9223372036854775808 ≤ x ∧ x ≤ 9223372036854775807 := fun x hx => Go.bounds_i64 (h x hx)
theorem pred {k d : Nat} (h : d < k) : ∃ m, k = m + 1 := ⟨k - 1, by omega⟩
theorem drop_cons {α : Type} (l : List α) (i : Nat) (h : i < l.length) : l.drop i = l[i] :: l.drop (i + 1) := List.drop_eq_getElem_cons h
theorem take_snoc {α : Type} (l : List α) (i : Nat) (h : i < l.length) : l.take (i + 1) = l.take i ++ [l[i]] := by
  rw [List.take_succ_eq_append_getElem h]
/-- f, so many times. -/
def it {α : Type} (f : α → α) : Nat → α → α
  | 0, x => x
  | n + 1, x => it f n (f x)
theorem it_succ {α : Type} (f : α → α) (n : Nat) (x : α) : it f (n + 1) x = it f n (f x) := rfl
theorem it_add {α : Type} (f : α → α) (m n : Nat) : ∀ x : α, it f (m + n) x = it f n (it f m x) := by
  induction m with
  | zero => intro x; simp [it]
  | succ m ih => intro x; rw [show m + 1 + n = (m + n) + 1 from by omega, it_succ, ih, it_succ]
theorem it_last {α : Type} (f : α → α) (n : Nat) (x : α) : it f (n + 1) x = f (it f n x) := by
  rw [it_add f n 1]; rfl

end Go.Proofs.YtmajbcglpcagoaaDoor.X

-- YtmajbcglpcagoaaDoorXBit
namespace Go.Proofs.YtmajbcglpcagoaaDoor.X
open Go.RowKit Go.Proofs.YtmajbcglpcagoaaDoorW.PrintWords Go.Proofs.YtmajbcglpcagoaaDoorW.PrintLast Go.Proofs.YtmajbcglpcagoaaDoorW.PrintMore
set_option linter.unusedVariables false
def isb (x : Int) : Prop := x = 0 ∨ x = 1
theorem isb01 {x : Int} (h : isb x) : 0 ≤ x ∧ x ≤ 1 := by unfold isb at h; omega
theorem isb_of {x : Int} (h0 : 0 ≤ x) (h1 : x ≤ 1) : isb x := by unfold isb; omega
theorem getD_isb {l : List Int} (h : ∀ x ∈ l, isb x) (i : Nat) : isb (l.getD i 0) := by
  by_cases hi : i < l.length
  · rw [List.getD_eq_getElem?_getD, List.getElem?_eq_getElem hi]; exact h _ (List.getElem_mem hi)
  · rw [List.getD_eq_getElem?_getD, List.getElem?_eq_none (by omega)]; exact .inl rfl
theorem xor_isb {x y : Int} (hx : isb x) (hy : isb y) : isb (Go.bits .xor .u8 x y) := by
  rcases hx with rfl | rfl <;> rcases hy with rfl | rfl <;> (unfold isb; decide +kernel)
theorem and_isb {x y : Int} (hx : isb x) (hy : isb y) : isb (Go.bits .and .u8 x y) := by
  rcases hx with rfl | rfl <;> rcases hy with rfl | rfl <;> (unfold isb; decide +kernel)
theorem xor_zero {x : Int} (hx : isb x) : Go.bits .xor .u8 x 0 = x := by
  rcases hx with rfl | rfl <;> decide +kernel
theorem and_zero {x : Int} (hx : isb x) : Go.bits .and .u8 x 0 = 0 := by
  rcases hx with rfl | rfl <;> decide +kernel
theorem step_lin {p q t x y : Int} (hp : isb p) (hq : isb q) (ht : isb t) (hx : isb x) (hy : isb y) :
    Go.bits .xor .u8 (Go.bits .xor .u8 p q) (Go.bits .and .u8 t (Go.bits .xor .u8 x y)) = Go.bits .xor .u8 (Go.bits .xor .u8 p (Go.bits .and .u8 t x)) (Go.bits .xor .u8 q (Go.bits .and .u8 t y)) := by
  rcases hp with rfl | rfl <;> rcases hq with rfl | rfl <;> rcases ht with rfl | rfl <;> rcases hx with rfl | rfl <;> rcases hy with rfl | rfl <;> decide +kernel
end Go.Proofs.YtmajbcglpcagoaaDoor.X

-- YtmajbcglpcagoaaDoorX29
namespace Go.Proofs.YtmajbcglpcagoaaDoor.X
open Go.RowKit Go.Proofs.YtmajbcglpcagoaaDoorW.PrintWords Go.Proofs.YtmajbcglpcagoaaDoorW.PrintLast Go.Proofs.YtmajbcglpcagoaaDoorW.PrintMore
attribute [local go_sem] max2_int min2_int max_two min_two max_three min_three max_four min_four   -- for this text's walks alone
set_option linter.unusedVariables false
set_option linter.unusedSimpArgs false

/-! ### shuttleref01_Right: function 15 -/
def shuttleref01_Right.l0 : Nat → List Int → Int → Option (Bool)
  | 0, _, _ => none
  | k + 1, x0, x3 => if x3 < (x0.length : Int) then (if 0 ≤ x3 then (if (rd x0 x3) > 1 then (some false) else (shuttleref01_Right.l0 k x0 (wrap64 (x3 + 1)))) else (none)) else (some true)
def shuttleref01_Right.f (k : Nat) (l0 : List Int) : Option (Bool) := shuttleref01_Right.l0 k l0 0
theorem shuttleref01_Right.mono_l : ∀ k, (∀ y0 y1, LeO (shuttleref01_Right.l0 k y0 y1) (shuttleref01_Right.l0 (k + 1) y0 y1))
  | 0 => fun _ _ r h => by simp [shuttleref01_Right.l0] at h
  | k + 1 => by
    have ih0 := shuttleref01_Right.mono_l k
    · intro y0 y1
      unfold shuttleref01_Right.l0
      repeat' first
      | (with_reducible exact ih0 _ _)
      | (with_reducible exact LeO.refl _)
      | (with_reducible exact LeO.none _)
      | (with_reducible refine LeO.ite ?_ ?_)
      | (with_reducible refine LeO.bind ?_ (fun _ => ?_))
      | exact ih0 _ _
      | exact LeO.none _
      | refine LeO.ite ?_ ?_
      | refine LeO.bind ?_ (fun _ => ?_)
theorem shuttleref01_Right.mono : ∀ a0 k, LeO (shuttleref01_Right.f k a0) (shuttleref01_Right.f (k + 1) a0) := by
  intro a0 k
  have ih0 := shuttleref01_Right.mono_l k
  unfold shuttleref01_Right.f
  repeat' first
      | (with_reducible exact ih0 _ _)
      | (with_reducible exact LeO.refl _)
      | (with_reducible exact LeO.none _)
      | (with_reducible refine LeO.ite ?_ ?_)
      | (with_reducible refine LeO.bind ?_ (fun _ => ?_))
      | exact ih0 _ _
      | exact LeO.none _
      | refine LeO.ite ?_ ?_
      | refine LeO.bind ?_ (fun _ => ?_)
set_option maxHeartbeats 8000000 in
set_option maxRecDepth 100000 in
theorem shuttleref01_Right.calls (k : Nat) (A0 : Option Addr) (c0 : Nat) (l0 : List Int) (r : Bool) (w : World) (hr0 : Kd.C (Kd.int .u8) w A0 l0.length l0) (hc0 : l0.length ≤ c0) (h : shuttleref01_Right.f k l0 = some r) :
    Calls Tryd.prog 15 #[.slice A0 l0.length c0] w fun e w' => e = .returned (.bool r) ∧ Drawn0 w w' := by
  have HR0 := Aside0.mk hr0
  have HC0 := Aside0.mk hc0
  clear hr0 hc0
  have H : (shuttleref01_Right.l0 k l0 0) = some r := h
  clear h
  have H' := Aside0.mk H
  clear H
  go_enter Tryd.func15, Tryd.ntmps15
  go_wp2
  go_loopg [3] k (fun kq v3 w' => ∃ (x3_1 : Int), v3 = .int .i64 x3_1 ∧ Aside0 (shuttleref01_Right.l0 kq l0 x3_1 = some r) ∧ Aside0 (kq ≤ k) ∧ Drawn0 w w')
  case atStart => exact ⟨(0), (by first | rfl | (simp; done) | (simp [*]; done)), H', ⟨Nat.le_refl _⟩, by repeat (first | exact Drawn0.refl _ | apply Drawn0.step)⟩
  case round =>
    clear H'
    try clear c1
    obtain ⟨x3_1, rfl, HA, HK1, ⟨m1, rfl⟩⟩ := hrel
    cases gk with
    | zero => exact absurd HA.out (by simp [shuttleref01_Right.l0])
    | succ k1 =>
      have H := HA.out
      clear HA
      simp only [shuttleref01_Right.l0] at H
      by_cases c2 : x3_1 < (l0.length : Int)
      · rw [if_pos c2] at H
        have c2b0 : decide (x3_1 < (l0.length : Int)) = true := decide_eq_true c2
        clear c2
        by_cases c3 : 0 ≤ x3_1
        · rw [if_pos c3] at H
          have c3b0 : decide (0 ≤ x3_1) = true := decide_eq_true c3
          clear c3
          by_cases c4 : (rd l0 x3_1) > 1
          · rw [if_pos c4] at H
            have c4b0 : decide (1 < (rd l0 x3_1)) = true := decide_eq_true c4
            clear c4
            obtain rfl := Option.some.inj H
            have p372 : 0 ≤ (x3_1 : Int) := of_decide_eq_true (by first | (with_reducible assumption) | assumption)
            have q372 : x3_1 < (l0.length : Int) := of_decide_eq_true (by first | (with_reducible assumption) | assumption)
            obtain ⟨ad372, e372, hx372_0⟩ := Kd.at_int HR0.out x3_1 p372 q372
            cases e372
            replace p372 := eq_true p372
            replace q372 := eq_true q372
            go_wp2
            go_ret
            exact ⟨by first | rfl | (simp; done) | (simp [*]; done), by repeat (first | exact Drawn0.refl _ | apply Drawn0.step)⟩
          · rw [if_neg c4] at H
            have c4b0 : decide (1 < (rd l0 x3_1)) = false := decide_eq_false c4
            clear c4
            have H' := Aside0.mk H
            clear H
            have p372 : 0 ≤ (x3_1 : Int) := of_decide_eq_true (by first | (with_reducible assumption) | assumption)
            have q372 : x3_1 < (l0.length : Int) := of_decide_eq_true (by first | (with_reducible assumption) | assumption)
            obtain ⟨ad372, e372, hx372_0⟩ := Kd.at_int HR0.out x3_1 p372 q372
            cases e372
            replace p372 := eq_true p372
            replace q372 := eq_true q372
            go_wp2
            go_roundg k1
            case measure => have := HK1.out; omega
            case rel => exact ⟨(wrap64 (x3_1 + 1)), (by first | rfl | (simp; done) | (simp [*]; done)), H', ⟨by have := HK1.out; omega⟩, by repeat (first | exact Drawn0.refl _ | apply Drawn0.step)⟩
        · rw [if_neg c3] at H
          exact absurd H (by simp)
      · rw [if_neg c2] at H
        have c2b0 : decide (x3_1 < (l0.length : Int)) = false := decide_eq_false c2
        clear c2
        obtain rfl := Option.some.inj H
        go_wp2
        go_ret
        exact ⟨by first | rfl | (simp; done) | (simp [*]; done), by repeat (first | exact Drawn0.refl _ | apply Drawn0.step)⟩

end Go.Proofs.YtmajbcglpcagoaaDoor.X

-- YtmajbcglpcagoaaDoorXBitsRight
namespace Go.Proofs.YtmajbcglpcagoaaDoor.X
open Go.RowKit Go.Proofs.YtmajbcglpcagoaaDoorW.PrintWords Go.Proofs.YtmajbcglpcagoaaDoorW.PrintLast Go.Proofs.YtmajbcglpcagoaaDoorW.PrintMore
set_option linter.unusedVariables false

def big (x : Int) : Bool := decide (x > 1)
theorem index_l0 (l : List Int) (hl : l.length ≤ 140737488355328) (d : Nat) : ∀ k i : Nat, i + d = l.length → d < k →
    ∃ r, slices_IndexFunc_byte_byte.l0 k l (l.length : Int) (i : Int) = some r ∧ decide (r ≥ 0) = (l.drop i).any big := by
  induction d with
  | zero =>
    intro k i hi hk
    obtain ⟨k, rfl⟩ := pred hk
    refine ⟨-1, ?_, ?_⟩
    · simp only [slices_IndexFunc_byte_byte.l0]; rw [if_neg (by omega)]
    · rw [List.drop_eq_nil_of_le (by omega)]; rfl
  | succ d ih =>
    intro k i hi hk
    obtain ⟨k, rfl⟩ := pred hk
    have hlt : i < l.length := by omega
    simp only [slices_IndexFunc_byte_byte.l0]
    rw [if_pos (by omega), if_pos (by omega), if_pos (by omega), rd_get l i hlt, drop_cons l i hlt, List.any_cons]
    unfold bits_Right_1.f
    simp only [Option.bind_some]
    cases hb : big l[i] with
    | true =>
      unfold big at hb
      rw [if_pos hb]
      exact ⟨_, rfl, by rw [Bool.true_or]; exact decide_eq_true (by omega)⟩
    | false =>
      unfold big at hb
      rw [if_neg (by rw [hb]; decide), wrap_succ i (by omega), Bool.false_or]
      exact ih k (i + 1) (by omega) (by omega)
theorem right_f (l : List Int) (hl : l.length ≤ 140737488355328) (k : Nat) (hk : l.length < k) : bits_Right.f k l = some (!l.any big) := by
  obtain ⟨r, h1, h2⟩ := index_l0 l hl l.length k 0 (by omega) hk
  unfold bits_Right.f slices_ContainsFunc_byte_byte.f slices_IndexFunc_byte_byte.f
  rw [show slices_IndexFunc_byte_byte.l0 k l (l.length : Int) 0 = some r from h1]
  simp only [Option.bind_some]
  rw [h2]; rfl
theorem rright_l0 (l : List Int) (hl : l.length ≤ 140737488355328) (d : Nat) : ∀ k i : Nat, i + d = l.length → d < k → shuttleref01_Right.l0 k l (i : Int) = some (!(l.drop i).any big) := by
  induction d with
  | zero =>
    intro k i hi hk
    obtain ⟨k, rfl⟩ := pred hk
    simp only [shuttleref01_Right.l0]
    rw [if_neg (by omega), List.drop_eq_nil_of_le (by omega)]; rfl
  | succ d ih =>
    intro k i hi hk
    obtain ⟨k, rfl⟩ := pred hk
    have hlt : i < l.length := by omega
    simp only [shuttleref01_Right.l0]
    rw [if_pos (by omega), if_pos (by omega), rd_get l i hlt, drop_cons l i hlt, List.any_cons]
    cases hb : big l[i] with
    | true =>
      rw [if_pos (of_decide_eq_true hb)]; rfl
    | false =>
      rw [if_neg (of_decide_eq_false hb), wrap_succ i (by omega), Bool.false_or]
      exact ih k (i + 1) (by omega) (by omega)
theorem rright_f (l : List Int) (hl : l.length ≤ 140737488355328) (k : Nat) (hk : l.length < k) : shuttleref01_Right.f k l = some (!l.any big) := by
  have := rright_l0 l hl l.length k 0 (by omega) hk
  exact this

end Go.Proofs.YtmajbcglpcagoaaDoor.X

-- YtmajbcglpcagoaaDoorX18
namespace Go.Proofs.YtmajbcglpcagoaaDoor.X
open Go.RowKit Go.Proofs.YtmajbcglpcagoaaDoorW.PrintWords Go.Proofs.YtmajbcglpcagoaaDoorW.PrintLast Go.Proofs.YtmajbcglpcagoaaDoorW.PrintMore
attribute [local go_sem] max2_int min2_int max_two min_two max_three min_three max_four min_four   -- for this text's walks alone
set_option linter.unusedVariables false
set_option linter.unusedSimpArgs false

/-! ### shuttleref06_Bit: function 27 -/
attribute [local go_sem] run_index_arr

def tapsL : List Int := [1, 0, 0, 1, 1, 1, 1, 1, 0, 1, 0, 1, 1, 1, 1, 1, 0, 1, 1, 0, 1, 1, 1, 1, 1, 0, 0, 1]
def tapsV : Array Value := (nums .u8 tapsL).toArray
def tapAt (s k : Nat) : Int := tapsL.getD (s * 7 + k) 0
theorem taps_size : (Tryd.prog.info? 68).map (·.size) = some tapsV.size := by
  rw [show tapsV.size = 28 from rfl]
  kernel_rfl
theorem taps_one : tapsV.all (·.oneCell') = true := by decide +kernel
theorem taps_lit : #[Value.int .u8 1, .int .u8 0, .int .u8 0, .int .u8 1, .int .u8 1, .int .u8 1, .int .u8 1, .int .u8 1, .int .u8 0, .int .u8 1, .int .u8 0, .int .u8 1, .int .u8 1, .int .u8 1, .int .u8 1, .int .u8 1, .int .u8 0, .int .u8 1, .int .u8 1, .int .u8 0, .int .u8 1, .int .u8 1, .int .u8 1, .int .u8 1, .int .u8 1, .int .u8 0, .int .u8 0, .int .u8 1] = tapsV := rfl
/-- What a stream tells of a list at a step, behind k of the seven places. -/
def bitR (l : List Int) (step s : Nat) : Nat → Int
  | 0 => 0
  | k + 1 => if k ≤ step ∧ step - k < l.length then Go.bits .xor .u8 (bitR l step s k) (Go.bits .and .u8 (tapAt s k) (l.getD (step - k) 0)) else bitR l step s k
def shuttleref06_Bit.f (l0 : List Int) (a1 : Int) (a2 : Int) : Option Int := if 0 ≤ a1 ∧ a1 ≤ 9223372036854775807 ∧ 0 ≤ a2 ∧ a2 < 4 then some (bitR l0 a1.toNat a2.toNat 7) else none
set_option maxRecDepth 100000 in
set_option maxHeartbeats 4000000 in
theorem shuttleref06_taps_calls (w : World) :
    Calls Tryd.prog 38 #[] w fun e w' => e = .returned (.agg tapsV) ∧ Below w.heap.size w w' := by
  go_enter Tryd.func38, Tryd.ntmps38
  have k0 := Aside0.mk (heap_alloc_new w (.cells #[.int .u8 0, .int .u8 0, .int .u8 0, .int .u8 0, .int .u8 0, .int .u8 0, .int .u8 0, .int .u8 0, .int .u8 0, .int .u8 0, .int .u8 0, .int .u8 0, .int .u8 0, .int .u8 0, .int .u8 0, .int .u8 0, .int .u8 0, .int .u8 0, .int .u8 0, .int .u8 0, .int .u8 0, .int .u8 0, .int .u8 0, .int .u8 0, .int .u8 0, .int .u8 0, .int .u8 0, .int .u8 0] 68))
  go_wp2_with (refine wpList_store_row rfl 68 (.tmp 0) (.tmp 5) rfl w.heap.size tapsV rfl rfl 68 _ k0.out taps_size rfl taps_one ?_)
  refine bodyPost_ret (results_cell_row rfl _ _ w.heap.size 68 tapsV (0, 0) _ rfl (setRow_heap _ _ _ _ _ _ k0.out) Tryd.underlying68 rfl (by kernel_rfl)) rfl ?_
  exact ⟨rfl, below_setRow (below_alloc (Below.refl _ _) _) (Nat.le_refl _) _⟩
theorem tapsV_at (s k : Nat) (hs : s < 4) (hk : k < 7) : tapsV[s * 7 + k]? = some (.int .u8 (tapAt s k)) := by
  unfold tapsV tapAt nums
  have h : s * 7 + k < tapsL.length := by show _ < 28; omega
  rw [List.getElem?_toArray, List.getElem?_map, List.getElem?_eq_getElem h, List.getD_eq_getElem?_getD, List.getElem?_eq_getElem h]
  rfl
set_option maxRecDepth 100000 in
set_option maxHeartbeats 4000000 in
theorem shuttleref06_Bit.calls (A0 : Option Addr) (c0 : Nat) (l0 : List Int) (a1 : Int) (a2 : Int) (r : Int) (w : World) (hr0 : Kd.C (Kd.int .u8) w A0 l0.length l0) (hc0 : l0.length ≤ c0) (h : shuttleref06_Bit.f l0 a1 a2 = some r) :
    Calls Tryd.prog 27 #[.slice A0 l0.length c0, .int .i64 a1, .int .i64 a2] w fun e w' => e = .returned (.int .u8 r) ∧ Below w.heap.size w w' := by
  unfold shuttleref06_Bit.f at h
  by_cases hg : 0 ≤ a1 ∧ a1 ≤ 9223372036854775807 ∧ 0 ≤ a2 ∧ a2 < 4
  · rw [if_pos hg] at h
    obtain ⟨step, rfl⟩ := Int.eq_ofNat_of_zero_le hg.1
    obtain ⟨s, rfl⟩ := Int.eq_ofNat_of_zero_le hg.2.2.1
    have hs : s < 4 := by omega
    have hst : (step : Int) ≤ 9223372036854775807 := hg.2.1
    clear hg
    simp only [Int.toNat_natCast, Option.some.injEq] at h
    subst h
    replace hr0 := Aside0.mk hr0
    have hl0 : (l0.length : Int) ≤ 9223372036854775807 := by
      have := hr0.out.2.1
      omega
    go_enter Tryd.func27, Tryd.ntmps27
    go_wp2_with (first | ((with_reducible refine gate_callee (f := 38) rfl ?_); refine goesL_ (some 10) rfl rfl Tryd.func38 (by kernel_rfl) rfl #[] rfl (by (try simp only [List.map_toArray, List.map_cons, List.map_nil]); first | done | rfl) ?_; (with_reducible refine (shuttleref06_taps_calls _).mono ?_); rintro e w1 ⟨rfl, HB0⟩; refine ⟨_, rfl, ?_⟩; have HB := Aside0.mk HB0; clear HB0)  | ((with_reducible refine gate_dst (N := 7) rfl ?_); refine box_event ?hg (N := 7) ?hd (cs := #[.int .u8 0, .int .u8 0, .int .u8 0, .int .u8 0, .int .u8 0, .int .u8 0, .int .u8 0, .int .u8 0, .int .u8 0, .int .u8 0, .int .u8 0, .int .u8 0, .int .u8 0, .int .u8 0, .int .u8 0, .int .u8 0, .int .u8 0, .int .u8 0, .int .u8 0, .int .u8 0, .int .u8 0, .int .u8 0, .int .u8 0, .int .u8 0, .int .u8 0, .int .u8 0, .int .u8 0, .int .u8 0]) (t := 68) ?hr ?_; (case hd => rfl); (case hg => rfl); (case hr => first | (go_simp; done) | (go_simp; rfl)); intro g hge w2 hbox0 hb0; have hbox := Aside0.mk hbox0; have HB1 := Aside0.mk (below_step HB.out hb0); have hgl := Aside0.mk (show w.heap.size ≤ g by rw [hge]; exact HB.out.size); clear HB hbox0 hb0 hge)  | (refine wpList_store_row rfl 68 (.tmp 7) (.tmp 10) rfl g tapsV rfl rfl 68 _ hbox.out taps_size rfl taps_one ?_; have BK := Aside0.mk (setRow_heap w2 g _ tapsV _ _ hbox.out); have HB2 := Aside0.mk (below_setRow HB1.out hgl.out tapsV); clear hbox HB1; obtain ⟨w3, hw3⟩ : ∃ w3, w2.setRow g tapsV = w3 := ⟨_, rfl⟩; rw [hw3] at BK HB2 ⊢; clear hw3))
    replace hst := Aside0.mk hst
    replace hl0 := Aside0.mk hl0
    go_loopw [8, 9] (fun v8 v9 wr => ∃ q : Nat, q ≤ 7 ∧ v8 = .int .u8 (bitR l0 step s q) ∧ v9 = .int .i64 (q : Int) ∧ Aside0 (wr.heap[g]? = some (.cells tapsV 68 (0, 0))) ∧ Aside0 (Below w.heap.size w wr)) (fun _ v9 _ => 7 - (intOf v9).toNat)
    case atStart => exact ⟨0, by omega, rfl, rfl, BK, HB2⟩
    case round =>
      clear BK HB2
      obtain ⟨q, hq, rfl, rfl, BK, HB⟩ := hrel
      by_cases hq7 : q < 7
      · have hlt7 : (q : Int) < 7 := by omega
        by_cases c1 : q ≤ step
        · obtain ⟨d, hd⟩ : ∃ d, step - q = d := ⟨_, rfl⟩
          have e1 : wrap64 ((step : Int) - (q : Int)) = (d : Int) := by have := hst.out; unfold wrap64; omega
          have e2 : (0 : Int) ≤ (d : Int) := by omega
          by_cases c2 : d < l0.length
          · have e3 : (d : Int) < (l0.length : Int) := by omega
            obtain ⟨ad, hA, hcs⟩ := (Kd.C_below hr0.out HB.out).2.2 (by omega)
            subst hA
            have hx : wr.cell? (ad.add d) = some (.int .u8 (l0.getD d 0)) := by
              obtain ⟨c, h1, h2, h3⟩ := hcs d _ (List.getElem?_eq_getElem c2)
              have h2' : c = [Value.int .u8 l0[d]] := h2
              subst h2'
              have h4 := h3 0 _ rfl
              rw [List.getD_eq_getElem?_getD, List.getElem?_eq_getElem c2]
              simpa [Kd.int, Kd.scalar] using h4
            have hy := (blk_cell BK.out (s * 7 + q)).trans (tapsV_at s q hs hq7)
            clear hcs
            go_wp2
            go_region
            all_goals
              go_wp2
              have es : wrap64 ((q : Int) + 1) = ((q + 1 : Nat) : Int) := by unfold wrap64; omega
              go_roundw
              case rel =>
                refine ⟨q + 1, by omega, ?_, by first | rfl | rw [es] | (simp; done), ⟨by first | exact BK.out | (exact blk_drew BK.out)⟩, ⟨by first | exact HB.out | exact below_drew1 HB.out⟩⟩
                show _ = Value.int .u8 (bitR l0 step s (q + 1))
                rw [bitR, if_pos ⟨c1, by rw [hd]; exact c2⟩, hd, List.getD_eq_getElem?_getD, List.getElem?_eq_getElem c2]
                rfl
              case measure => simp [intOf]; omega
          · have e3 : ¬ (d : Int) < (l0.length : Int) := by omega
            go_wp2
            have es : wrap64 ((q : Int) + 1) = ((q + 1 : Nat) : Int) := by unfold wrap64; omega
            go_roundw
            case rel =>
              refine ⟨q + 1, by omega, ?_, by first | rfl | rw [es] | (simp; done), BK, HB⟩
              show _ = Value.int .u8 (bitR l0 step s (q + 1))
              rw [bitR, if_neg (fun h => c2 (by rw [← hd]; exact h.2))]
            case measure => simp [intOf]; omega
        · have e1 : wrap64 ((step : Int) - (q : Int)) = (step : Int) - (q : Int) := by unfold wrap64; omega
          have e2 : ¬ (0 : Int) ≤ (step : Int) - (q : Int) := by omega
          have e3 : ¬ (q : Int) ≤ (step : Int) := by omega
          go_wp2
          have es : wrap64 ((q : Int) + 1) = ((q + 1 : Nat) : Int) := by unfold wrap64; omega
          go_roundw
          case rel =>
            refine ⟨q + 1, by omega, ?_, by first | rfl | rw [es] | (simp; done), BK, HB⟩
            show _ = Value.int .u8 (bitR l0 step s (q + 1))
            rw [bitR, if_neg (fun h => c1 h.1)]
          case measure => simp [intOf]; omega
      · obtain rfl : q = 7 := by omega
        go_wp2
        go_ret
        exact ⟨by first | rfl | (simp; done), HB.out⟩
  · rw [if_neg hg] at h; cases h

end Go.Proofs.YtmajbcglpcagoaaDoor.X

-- YtmajbcglpcagoaaDoorX31
namespace Go.Proofs.YtmajbcglpcagoaaDoor.X
open Go.RowKit Go.Proofs.YtmajbcglpcagoaaDoorW.PrintWords Go.Proofs.YtmajbcglpcagoaaDoorW.PrintLast Go.Proofs.YtmajbcglpcagoaaDoorW.PrintMore
attribute [local go_sem] max2_int min2_int max_two min_two max_three min_three max_four min_four   -- for this text's walks alone
set_option linter.unusedVariables false
set_option linter.unusedSimpArgs false

/-! ### shuttleref06_Code: function 17 -/
mutual
def shuttleref06_Code.l0 : Nat → List Int → List Int → Int → Option (List Int)
  | 0, _, _, _ => none
  | k + 1, x0, x3, x4 => if x4 < (wrap64 ((x0.length : Int) + 6)) then (shuttleref06_Code.l1 k x0 x3 x4 0) else (some x3)
def shuttleref06_Code.l1 : Nat → List Int → List Int → Int → Int → Option (List Int)
  | 0, _, _, _, _ => none
  | k + 1, x0, x3, x4, x5 => if x5 < 4 then ((shuttleref06_Bit.f x0 x4 x5).bind fun t396 => (if x3.length < 140737488355328 then (shuttleref06_Code.l1 k x0 (x3 ++ [t396]) x4 (wrap64 (x5 + 1))) else (none))) else (shuttleref06_Code.l0 k x0 x3 (wrap64 (x4 + 1)))
end
def shuttleref06_Code.f (k : Nat) (l0 : List Int) : Option (List Int) := shuttleref06_Code.l0 k l0 ([] : List Int) 0
theorem shuttleref06_Code.mono_l : ∀ k, (∀ y0 y1 y2, LeO (shuttleref06_Code.l0 k y0 y1 y2) (shuttleref06_Code.l0 (k + 1) y0 y1 y2)) ∧ (∀ y0 y1 y2 y3, LeO (shuttleref06_Code.l1 k y0 y1 y2 y3) (shuttleref06_Code.l1 (k + 1) y0 y1 y2 y3))
  | 0 => ⟨fun _ _ _ r h => by simp [shuttleref06_Code.l0] at h, fun _ _ _ _ r h => by simp [shuttleref06_Code.l1] at h⟩
  | k + 1 => by
    obtain ⟨ih0, ih1⟩ := shuttleref06_Code.mono_l k
    refine ⟨?_, ?_⟩
    · intro y0 y1 y2
      unfold shuttleref06_Code.l0
      repeat' first
      | (with_reducible exact ih0 _ _ _)
      | (with_reducible exact ih1 _ _ _ _)
      | (with_reducible exact LeO.refl _)
      | (with_reducible exact LeO.none _)
      | (with_reducible refine LeO.ite ?_ ?_)
      | (with_reducible refine LeO.bind ?_ (fun _ => ?_))
      | exact ih0 _ _ _
      | exact ih1 _ _ _ _
      | exact LeO.none _
      | refine LeO.ite ?_ ?_
      | refine LeO.bind ?_ (fun _ => ?_)
    · intro y0 y1 y2 y3
      unfold shuttleref06_Code.l1
      repeat' first
      | (with_reducible exact ih0 _ _ _)
      | (with_reducible exact ih1 _ _ _ _)
      | (with_reducible exact LeO.refl _)
      | (with_reducible exact LeO.none _)
      | (with_reducible refine LeO.ite ?_ ?_)
      | (with_reducible refine LeO.bind ?_ (fun _ => ?_))
      | exact ih0 _ _ _
      | exact ih1 _ _ _ _
      | exact LeO.none _
      | refine LeO.ite ?_ ?_
      | refine LeO.bind ?_ (fun _ => ?_)
theorem shuttleref06_Code.mono : ∀ a0 k, LeO (shuttleref06_Code.f k a0) (shuttleref06_Code.f (k + 1) a0) := by
  intro a0 k
  obtain ⟨ih0, ih1⟩ := shuttleref06_Code.mono_l k
  unfold shuttleref06_Code.f
  repeat' first
      | (with_reducible exact ih0 _ _ _)
      | (with_reducible exact ih1 _ _ _ _)
      | (with_reducible exact LeO.refl _)
      | (with_reducible exact LeO.none _)
      | (with_reducible refine LeO.ite ?_ ?_)
      | (with_reducible refine LeO.bind ?_ (fun _ => ?_))
      | exact ih0 _ _ _
      | exact ih1 _ _ _ _
      | exact LeO.none _
      | refine LeO.ite ?_ ?_
      | refine LeO.bind ?_ (fun _ => ?_)
set_option maxHeartbeats 8000000 in
set_option maxRecDepth 100000 in
theorem shuttleref06_Code.calls (k : Nat) (A0 : Option Addr) (c0 : Nat) (l0 : List Int) (r : List Int) (w : World) (hr0 : Kd.C (Kd.int .u8) w A0 l0.length l0) (hc0 : l0.length ≤ c0) (h : shuttleref06_Code.f k l0 = some r) :
    Calls Tryd.prog 17 #[.slice A0 l0.length c0] w fun e w' => ∃ v0_ : Value, e = .returned (v0_) ∧ Kd.R (Kd.int .u8) 5 w' w.heap.size (fun _ => True) v0_ r ∧ Below w.heap.size w w' := by
  have HR0 := Aside0.mk hr0
  have HC0 := Aside0.mk hc0
  clear hr0 hc0
  have HB := Aside0.mk (Below.refl w.heap.size w)
  have H : (shuttleref06_Code.l0 k l0 ([] : List Int) 0) = some r := h
  clear h
  have H' := Aside0.mk H
  clear H
  go_enter Tryd.func17, Tryd.ntmps17
  go_wp2
  go_loopg [3, 4] k (fun kq v3 v4 w' => ∃ (x3_1 : List Int) (x4_1 : Int), v4 = .int .i64 x4_1 ∧ Aside0 (shuttleref06_Code.l0 kq l0 x3_1 x4_1 = some r) ∧ Aside0 (kq ≤ k) ∧ Aside0 (Kd.R (Kd.int .u8) 5 w' w.heap.size (fun _ => True) v3 x3_1) ∧ Aside0 (Below w.heap.size w w'))
  case atStart => exact ⟨(([] : List Int)), (0), (by first | rfl | (simp; done) | (simp [*]; done)), H', ⟨Nat.le_refl _⟩, ⟨by first | exact Kd.R_nil _ _ _ _ _ | exact Kd.N_nil _ _ _ _ _ | exact Kd.V_nil _ _ _ _ _ | exact Kd.Q_nil _ _ _ _ _ | exact Kd.S_nil _ _ _ _ _⟩, ⟨by repeat (first | (with_reducible first | exact HB.out | apply below_alloc | apply pw_below_drewN | apply below_drew1) | exact HB.out)⟩⟩
  case round =>
    clear H'
    try clear c1
    obtain ⟨x3_1, x4_1, rfl, HA, HK1, HO_3, HB⟩ := hrel
    cases gk with
    | zero => exact absurd HA.out (by simp [shuttleref06_Code.l0])
    | succ k1 =>
      have H := HA.out
      clear HA
      simp only [shuttleref06_Code.l0] at H
      by_cases c2 : x4_1 < (wrap64 ((l0.length : Int) + 6))
      · rw [if_pos c2] at H
        have c2b0 : decide (x4_1 < (wrap64 ((l0.length : Int) + 6))) = true := decide_eq_true c2
        clear c2
        have H' := Aside0.mk H
        clear H
        go_wp2
        go_loopg [3, 5] k1 (fun kq v3 v5 w' => ∃ (x3_2 : List Int) (x5_2 : Int), v5 = .int .i64 x5_2 ∧ Aside0 (shuttleref06_Code.l1 kq l0 x3_2 x4_1 x5_2 = some r) ∧ Aside0 (kq ≤ k1) ∧ Aside0 (Kd.R (Kd.int .u8) 5 w' w.heap.size (fun _ => True) v3 x3_2) ∧ Aside0 (Below w.heap.size w w'))
        case atStart => exact ⟨(x3_1), (0), (by first | rfl | (simp; done) | (simp [*]; done)), H', ⟨Nat.le_refl _⟩, ⟨by (with_reducible repeat (first | apply Kd.R_alloc | apply Kd.R_drewN | apply Kd.R_drew)); exact HO_3.out⟩, ⟨by repeat (first | (with_reducible first | exact HB.out | apply below_alloc | apply pw_below_drewN | apply below_drew1) | exact HB.out)⟩⟩
        case round =>
          clear H'
          try clear c1
          try clear c2
          try clear c2b0
          try clear p2
          obtain ⟨x3_2, x5_2, rfl, HA, HK2, HO_3, HB⟩ := hrel
          cases gk with
          | zero => exact absurd HA.out (by simp [shuttleref06_Code.l1])
          | succ k2 =>
            have H := HA.out
            clear HA
            simp only [shuttleref06_Code.l1] at H
            by_cases c3 : x5_2 < 4
            · rw [if_pos c3] at H
              have c3b0 : decide (x5_2 < 4) = true := decide_eq_true c3
              clear c3
              replace H := Option.bind_eq_some_iff.mp H
              obtain ⟨t396, A40, H⟩ := H
              replace H : (if x3_2.length < 140737488355328 then (shuttleref06_Code.l1 k2 l0 (x3_2 ++ [t396]) x4_1 (wrap64 (x5_2 + 1))) else (none)) = some r := H
              have A4 := Aside0.mk A40
              clear A40
              by_cases c5 : x3_2.length < 140737488355328
              · rw [if_pos c5] at H
                have LMc5 := Aside0.mk c5
                clear c5
                obtain ⟨y397, hy397⟩ : ∃ y_ : List Int, y_ = (x3_2 ++ [t396]) := ⟨_, rfl⟩
                replace H : (shuttleref06_Code.l1 k2 l0 y397 x4_1 (wrap64 (x5_2 + 1))) = some r := by first | (rw [hy397]; with_reducible exact H) | (have H2_ := (Option.bind_some _ _).symm.trans H; rw [hy397]; with_reducible exact H2_) | (have H2_ := (Option.bind_some _ _).symm.trans H; with_reducible exact H2_) | with_reducible exact H | (rw [hy397]; exact H) | exact H
                have Ny397 := Aside0.mk hy397
                clear hy397
                have H' := Aside0.mk H
                clear H
                go_wp2_with (first | ((with_reducible refine gate_callee (f := 27) rfl ?_); refine goesL_ (some 21) rfl rfl Tryd.func27 (by kernel_rfl) rfl #[.slice A0 l0.length c0, .int .i64 x4_1, .int .i64 x5_2] rfl (by (try simp only [List.map_toArray, List.map_cons, List.map_nil]); first | done | rfl | (simp only [List.length_drop, List.length_take]; rfl)) ?_; (with_reducible refine (shuttleref06_Bit.calls _ _ l0 x4_1 x5_2 t396 _ ?side1 ?side2 A4.out).mono ?_); (case side1 => repeat (first | exact (Kd.C_below HR0.out HB.out) | (with_reducible refine Kd.C_alloc ?_ _) | (with_reducible refine Kd.C_drewN ?_ _) | (with_reducible refine Kd.C_drew ?_))); (case side2 => exact HC0.out); rintro e w6 ⟨rfl, hb⟩; refine ⟨_, rfl, ?_⟩; have n0_ := Aside0.mk (Kd.R_below (by (with_reducible repeat (first | apply Kd.R_alloc | apply Kd.R_drewN | apply Kd.R_drew)); exact HO_3.out) hb); have n1_ := Aside0.mk (below_step (by repeat (first | (with_reducible first | exact HB.out | apply below_alloc | apply pw_below_drewN | apply below_drew1) | exact HB.out)) hb); clear HO_3; clear HB; have HO_3 := n0_; have HB := n1_; clear n0_ n1_; (try clear hb); (try clear hb2); (try clear hk); (try clear hi)) | ((with_reducible refine gate_builtin (b := .append) (xs := #[.tmp 17, .tmp 22]) rfl ?_); at_builtin; refine Kd.R_append (Kd.int .u8) (w0 := w) w.heap.size rfl (.tmp 17) (.tmp 22) 35 5 (.int .u8 0) 1 rfl Tryd.underlying35 info5 rfl (by decide) (by omega) u3 x3_2 t396 [.int .u8 t396] (fun _ => True) (fun _ => False) rfl rfl ?aP (fun _ hk => hk.elim) ?aF ?aO ?aB ?aS ?aL ?_; (case aP => exact rfl); (case aB => exact (by repeat (first | (with_reducible first | exact HB.out | apply below_alloc | apply pw_below_drewN | apply below_drew1) | exact HB.out))); (case aF => exact (fun _ _ => trivial)); (case aO => exact (by (with_reducible repeat (first | apply Kd.R_alloc | apply Kd.R_drewN | apply Kd.R_drew)); exact HO_3.out)); (case aS => exact (below_size (by repeat (first | (with_reducible first | exact HB.out | apply below_alloc | apply pw_below_drewN | apply below_drew1) | exact HB.out)))); (case aL => have := LMc5.out; omega); intro v398 w7 ho hb hg hat; rw [← Ny397.out] at ho; have n0_ := Aside0.mk (hb); have n1_ := Aside0.mk (ho); clear HB; clear HO_3; have HB := n0_; have HO399 := n1_; clear n0_ n1_; clear ho hb hg hat))
                go_roundg k2
                case measure => have := HK1.out; have := HK2.out; omega
                case rel => exact ⟨(y397), (wrap64 (x5_2 + 1)), (by first | rfl | (simp; done) | (simp [*]; done)), H', ⟨by have := HK1.out; have := HK2.out; omega⟩, ⟨by (with_reducible repeat (first | apply Kd.R_alloc | apply Kd.R_drewN | apply Kd.R_drew)); exact HO399.out⟩, ⟨by repeat (first | (with_reducible first | exact HB.out | apply below_alloc | apply pw_below_drewN | apply below_drew1) | exact HB.out)⟩⟩
              · rw [if_neg c5] at H
                exact absurd H (by simp)
            · rw [if_neg c3] at H
              have c3b0 : decide (x5_2 < 4) = false := decide_eq_false c3
              clear c3
              have H' := Aside0.mk H
              clear H
              go_wp2
              go_roundg k2
              case measure => have := HK1.out; have := HK2.out; omega
              case rel => exact ⟨(x3_2), (wrap64 (x4_1 + 1)), (by first | rfl | (simp; done) | (simp [*]; done)), H', ⟨by have := HK1.out; have := HK2.out; omega⟩, ⟨by (with_reducible repeat (first | apply Kd.R_alloc | apply Kd.R_drewN | apply Kd.R_drew)); exact HO_3.out⟩, ⟨by repeat (first | (with_reducible first | exact HB.out | apply below_alloc | apply pw_below_drewN | apply below_drew1) | exact HB.out)⟩⟩
      · rw [if_neg c2] at H
        have c2b0 : decide (x4_1 < (wrap64 ((l0.length : Int) + 6))) = false := decide_eq_false c2
        clear c2
        obtain rfl := Option.some.inj H
        go_wp2
        go_ret
        exact ⟨_, by first | rfl | (simp [errW_none, errW_some] <;> rfl) | (simp [*, errW_none, errW_some] <;> rfl), by (with_reducible repeat (first | apply Kd.R_alloc | apply Kd.R_drewN | apply Kd.R_drew)); exact HO_3.out, by repeat (first | (with_reducible first | exact HB.out | apply below_alloc | apply pw_below_drewN | apply below_drew1) | exact HB.out)⟩

end Go.Proofs.YtmajbcglpcagoaaDoor.X

-- YtmajbcglpcagoaaDoorXConv
namespace Go.Proofs.YtmajbcglpcagoaaDoor.X
open Go.RowKit Go.Proofs.YtmajbcglpcagoaaDoorW.PrintWords Go.Proofs.YtmajbcglpcagoaaDoorW.PrintLast Go.Proofs.YtmajbcglpcagoaaDoorW.PrintMore
set_option linter.unusedVariables false
theorem tap_isb (s k : Nat) : isb (tapAt s k) := getD_isb (l := tapsL) (by unfold isb tapsL; decide) _
/-- Of seven bits, the newest first, what a stream tells. -/
def bitB (b : Nat → Int) (s : Nat) : Nat → Int
  | 0 => 0
  | k + 1 => Go.bits .xor .u8 (bitB b s k) (Go.bits .and .u8 (tapAt s k) (b k))
theorem bitB_isb {b : Nat → Int} (hb : ∀ j, isb (b j)) (s : Nat) : ∀ k, isb (bitB b s k)
  | 0 => .inl rfl
  | k + 1 => xor_isb (bitB_isb hb s k) (and_isb (tap_isb s k) (hb k))
theorem bitB_congr {b c : Nat → Int} (s : Nat) : ∀ k, (∀ j, j < k → b j = c j) → bitB b s k = bitB c s k
  | 0, _ => rfl
  | k + 1, h => by unfold bitB; rw [bitB_congr s k (fun j hj => h j (by omega)), h k (by omega)]
theorem bitB_zero (s : Nat) : ∀ k, bitB (fun _ => 0) s k = 0
  | 0 => rfl
  | k + 1 => by unfold bitB; rw [bitB_zero s k, and_zero (tap_isb s k)]; decide +kernel
theorem bitB_xor {b c : Nat → Int} (hb : ∀ j, isb (b j)) (hc : ∀ j, isb (c j)) (s : Nat) : ∀ k, bitB (fun j => Go.bits .xor .u8 (b j) (c j)) s k = Go.bits .xor .u8 (bitB b s k) (bitB c s k)
  | 0 => by show (0 : Int) = Go.bits .xor .u8 0 0; decide +kernel
  | k + 1 => by
    unfold bitB
    rw [bitB_xor hb hc s k]
    exact step_lin (bitB_isb hb s k) (bitB_isb hc s k) (tap_isb s k) (hb k) (hc k)
/-- The bit of a list that lies k steps behind a step. -/
def lb (l : List Int) (t k : Nat) : Int := if k ≤ t then l.getD (t - k) 0 else 0
theorem lb_isb {l : List Int} (h : ∀ x ∈ l, isb x) (t k : Nat) : isb (lb l t k) := by
  unfold lb; split
  · exact getD_isb h _
  · exact .inl rfl
theorem lb_succ (l : List Int) (t k : Nat) : lb l (t + 1) (k + 1) = lb l t k := by
  unfold lb
  by_cases h : k ≤ t
  · rw [if_pos h, if_pos (by omega), show t + 1 - (k + 1) = t - k from by omega]
  · rw [if_neg h, if_neg (by omega)]
theorem lb_zero (l : List Int) (t : Nat) : lb l t 0 = l.getD t 0 := by unfold lb; rw [if_pos (by omega)]; rfl
theorem bitR_eq {l : List Int} (h : ∀ x ∈ l, isb x) (t s : Nat) : ∀ k, bitR l t s k = bitB (lb l t) s k
  | 0 => rfl
  | k + 1 => by
    unfold bitR bitB
    rw [bitR_eq h t s k]
    by_cases c : k ≤ t ∧ t - k < l.length
    · rw [if_pos c]; unfold lb; rw [if_pos c.1]
    · rw [if_neg c]
      have e : lb l t k = 0 := by
        unfold lb
        split
        · rw [List.getD_eq_getElem?_getD, List.getElem?_eq_none (by omega)]; rfl
        · rfl
      rw [e, and_zero (tap_isb s k), xor_zero (bitB_isb (lb_isb h t) s k)]
/-- A state's number, a word's. -/
def sd (b : Nat → Int) : Int := 32 * b 1 + 16 * b 2 + 8 * b 3 + 4 * b 4 + 2 * b 5 + b 6
def wd (b : Nat → Int) : Int := 64 * b 0 + sd b
def bw (w j : Nat) : Int := ((w / 2 ^ (6 - j) % 2 : Nat) : Int)
theorem bw_isb (w j : Nat) : isb (bw w j) := by unfold bw; exact isb_of (by omega) (by omega)
theorem sd_in {b : Nat → Int} (hb : ∀ j, isb (b j)) : 0 ≤ sd b ∧ sd b ≤ 63 := by
  have h1 := isb01 (hb 1); have h2 := isb01 (hb 2); have h3 := isb01 (hb 3); have h4 := isb01 (hb 4); have h5 := isb01 (hb 5); have h6 := isb01 (hb 6)
  unfold sd; omega
theorem wd_in {b : Nat → Int} (hb : ∀ j, isb (b j)) : 0 ≤ wd b ∧ wd b ≤ 127 := by
  have := sd_in hb; have h0 := isb01 (hb 0)
  unfold wd; omega
theorem bw_wd {b : Nat → Int} (hb : ∀ j, isb (b j)) (j : Nat) (hj : j < 7) : bw (wd b).toNat j = b j := by
  have h0 := isb01 (hb 0); have h1 := isb01 (hb 1); have h2 := isb01 (hb 2); have h3 := isb01 (hb 3); have h4 := isb01 (hb 4); have h5 := isb01 (hb 5); have h6 := isb01 (hb 6)
  unfold bw wd sd
  obtain rfl | rfl | rfl | rfl | rfl | rfl | rfl : j = 0 ∨ j = 1 ∨ j = 2 ∨ j = 3 ∨ j = 4 ∨ j = 5 ∨ j = 6 := by omega
  all_goals (simp only [Nat.sub_zero, Nat.reduceSub, Nat.reducePow]; omega)
theorem out_all : ∀ w : Fin 128, conv_out.f ((w.val : Nat) : Int) = some (bitB (bw w.val) 0 7, bitB (bw w.val) 1 7, bitB (bw w.val) 2 7, bitB (bw w.val) 3 7) := by decide +kernel
theorem word_all : ∀ s : Fin 64, ∀ b : Fin 2, conv_word.f ((s.val : Nat) : Int) ((b.val : Nat) : Int) = some ((64 * b.val + s.val : Nat) : Int) := by decide +kernel
theorem word_f {s b : Int} (hs : 0 ≤ s ∧ s ≤ 63) (hb : isb b) : conv_word.f s b = some (64 * b + s) := by
  have hb' := isb01 hb
  have := word_all ⟨s.toNat, by omega⟩ ⟨b.toNat, by omega⟩
  rw [show (((⟨s.toNat, by omega⟩ : Fin 64).val : Nat) : Int) = s from by show ((s.toNat : Nat) : Int) = s; omega, show (((⟨b.toNat, by omega⟩ : Fin 2).val : Nat) : Int) = b from by show ((b.toNat : Nat) : Int) = b; omega] at this
  rw [this]
  congr 1
  show ((64 * b.toNat + s.toNat : Nat) : Int) = _
  omega
theorem out_f {b : Nat → Int} (hb : ∀ j, isb (b j)) : conv_out.f (wd b) = some (bitB b 0 7, bitB b 1 7, bitB b 2 7, bitB b 3 7) := by
  have hw := wd_in hb
  have := out_all ⟨(wd b).toNat, by omega⟩
  rw [show (((⟨(wd b).toNat, by omega⟩ : Fin 128).val : Nat) : Int) = wd b from by show (((wd b).toNat : Nat) : Int) = _; omega] at this
  rw [this]
  have e : ∀ s, bitB (bw (wd b).toNat) s 7 = bitB b s 7 := fun s => bitB_congr s 7 (fun j hj => bw_wd hb j hj)
  simp only [e]
/-- What is told at a step, of a list's first steps. -/
def code4 (l : List Int) (t : Nat) : List Int := [bitB (lb l t) 0 7, bitB (lb l t) 1 7, bitB (lb l t) 2 7, bitB (lb l t) 3 7]
def codeN (l : List Int) : Nat → List Int
  | 0 => []
  | n + 1 => codeN l n ++ code4 l n
def code (l : List Int) : List Int := codeN l (l.length + 6)
theorem codeN_length (l : List Int) : ∀ n, (codeN l n).length = 4 * n
  | 0 => rfl
  | n + 1 => by unfold codeN; rw [List.length_append, codeN_length l n]; show _ + 4 = _; omega
theorem code_length (l : List Int) : (code l).length = 4 * (l.length + 6) := codeN_length l _
theorem code4_isb {l : List Int} (h : ∀ x ∈ l, isb x) (t : Nat) : ∀ x ∈ code4 l t, isb x := by
  intro x hx
  simp only [code4, List.mem_cons, List.not_mem_nil, or_false] at hx
  rcases hx with rfl | rfl | rfl | rfl <;> exact bitB_isb (lb_isb h t) _ _
theorem codeN_isb {l : List Int} (h : ∀ x ∈ l, isb x) : ∀ n, ∀ x ∈ codeN l n, isb x
  | 0 => by intro x hx; cases hx
  | n + 1 => by
    intro x hx
    unfold codeN at hx
    rcases List.mem_append.1 hx with hx | hx
    · exact codeN_isb h n x hx
    · exact code4_isb h n x hx
theorem sd_succ (l : List Int) (h : ∀ x ∈ l, isb x) (t : Nat) : sd (lb l (t + 1)) = wd (lb l t) / 2 := by
  have h6 := isb01 (lb_isb h t 6)
  unfold wd sd
  rw [lb_succ, lb_succ, lb_succ, lb_succ, lb_succ, lb_succ]
  omega
theorem sd_start (l : List Int) : sd (lb l 0) = 0 := by
  unfold sd lb; rfl
theorem code_l0 (l : List Int) (h : ∀ x ∈ l, isb x) (hl : l.length ≤ 16384) (d : Nat) : ∀ k i : Nat, i + d = l.length + 6 → d < k →
    conv_Code.l0 k l (codeN l i) (sd (lb l i)) ((l.length : Int) + 6) (i : Int) = some (code l, 0) := by
  induction d with
  | zero =>
    intro k i hi hk
    obtain ⟨k, rfl⟩ := pred hk
    obtain rfl : i = l.length + 6 := by omega
    simp only [conv_Code.l0]
    rw [if_neg (by omega)]; rfl
  | succ d ih =>
    intro k i hi hk
    obtain ⟨k, rfl⟩ := pred hk
    have hs := sd_in (lb_isb h i)
    have hw := wd_in (lb_isb h i)
    have hn := ih k (i + 1) (by omega) (by omega)
    have ew : conv_word.f (sd (lb l i)) (lb l i 0) = some (wd (lb l i)) := word_f hs (lb_isb h i 0)
    have hlen : (codeN l i).length + [bitB (lb l i) 0 7, bitB (lb l i) 1 7, bitB (lb l i) 2 7, bitB (lb l i) 3 7].length < 140737488355328 := by
      rw [codeN_length]; show 4 * i + 4 < _; omega
    have e2 : wrap64 (wd (lb l i) / 2) = sd (lb l (i + 1)) := by rw [sd_succ l h, wrap_in (by omega) (by omega)]
    simp only [conv_Code.l0]
    rw [if_pos (by omega)]
    by_cases c : (i : Int) < (l.length : Int)
    · rw [if_pos c, if_pos (by omega), rd_getD, ← lb_zero l i, ew, Option.bind_some, out_f (lb_isb h i), Option.bind_some, if_pos hlen, e2, wrap_succ i (by omega)]
      exact hn
    · have e0 : lb l i 0 = 0 := by
        rw [lb_zero, List.getD_eq_getElem?_getD, List.getElem?_eq_none (by omega)]; rfl
      rw [if_neg c]
      rw [e0] at ew
      rw [ew, Option.bind_some, out_f (lb_isb h i), Option.bind_some, if_pos hlen, e2, wrap_succ i (by omega)]
      exact hn
theorem big_isb {l : List Int} (h0 : ∀ x ∈ l, 0 ≤ x) : l.any big = false ↔ ∀ x ∈ l, isb x := by
  constructor
  · intro h x hx
    have := List.any_eq_false.1 h x hx
    unfold big at this
    have := h0 x hx
    exact isb_of this (by simpa using ‹¬decide (x > 1) = true›)
  · intro h
    rw [List.any_eq_false]
    intro x hx
    have := isb01 (h x hx)
    unfold big
    simp; omega
theorem Code_f (l : List Int) (h : ∀ x ∈ l, isb x) (hl : l.length ≤ 16384) (k : Nat) (hk : l.length + 6 < k) : conv_Code.f k l = some (code l, 0) := by
  unfold conv_Code.f
  rw [right_f l (by omega) k (by omega), (big_isb (fun x hx => (isb01 (h x hx)).1)).2 h, Option.bind_some, if_pos (show (!false) = true from rfl), if_neg (by omega)]
  unfold conv_Steps.f
  rw [if_neg (by omega), Option.bind_some, wrap_in (by omega) (by omega)]
  have := code_l0 l h hl (l.length + 6) k 0 (by omega) (by omega)
  rw [sd_start] at this
  exact this
theorem Code_no (l : List Int) (h : l.any big = true) (hl : l.length ≤ 16384) (k : Nat) (hk : l.length < k) : conv_Code.f k l = some ([], 5) := by
  unfold conv_Code.f
  rw [right_f l (by omega) k (by omega), h, Option.bind_some, if_neg (show ¬ (!true) = true by decide)]
theorem rbit_f (l : List Int) (h : ∀ x ∈ l, isb x) (t s : Nat) (ht : (t : Int) ≤ 9223372036854775807) (hs : s < 4) : shuttleref06_Bit.f l (t : Int) (s : Int) = some (bitB (lb l t) s 7) := by
  unfold shuttleref06_Bit.f
  rw [if_pos ⟨by omega, ht, by omega, by omega⟩]
  show some (bitR l t s 7) = _
  rw [bitR_eq h]
theorem rcode_l0 (l : List Int) (h : ∀ x ∈ l, isb x) (hl : l.length ≤ 16384) (d : Nat) : ∀ k i : Nat, i + d = l.length + 6 → 6 * d < k →
    shuttleref06_Code.l0 k l (codeN l i) (i : Int) = some (code l) := by
  induction d with
  | zero =>
    intro k i hi hk
    obtain ⟨k, rfl⟩ := pred (show 0 < k by omega)
    obtain rfl : i = l.length + 6 := by omega
    rw [shuttleref06_Code.l0.eq_2, wrap_in (by omega) (by omega), if_neg (by omega)]; rfl
  | succ d ih =>
    intro k i hi hk
    obtain ⟨k, rfl⟩ : ∃ m, k = m + 6 := ⟨k - 6, by omega⟩
    have hn := ih k (i + 1) (by omega) (by omega)
    have hb := fun s hs => rbit_f l h i s (by omega) hs
    have h0 := hb 0 (by omega); have h1 := hb 1 (by omega); have h2 := hb 2 (by omega); have h3 := hb 3 (by omega)
    have hlen := codeN_length l i
    rw [shuttleref06_Code.l0.eq_2, wrap_in (by omega) (by omega), if_pos (by omega)]
    rw [shuttleref06_Code.l1.eq_2, if_pos (by decide), show ((0 : Int)) = ((0 : Nat) : Int) from rfl, h0, Option.bind_some, if_pos (by omega), show wrap64 (((0 : Nat) : Int) + 1) = ((1 : Nat) : Int) from by unfold wrap64; omega]
    rw [shuttleref06_Code.l1.eq_2, if_pos (by decide), h1, Option.bind_some, if_pos (by simp only [List.length_append, List.length_cons, List.length_nil]; omega), show wrap64 (((1 : Nat) : Int) + 1) = ((2 : Nat) : Int) from by unfold wrap64; omega]
    rw [shuttleref06_Code.l1.eq_2, if_pos (by decide), h2, Option.bind_some, if_pos (by simp only [List.length_append, List.length_cons, List.length_nil]; omega), show wrap64 (((2 : Nat) : Int) + 1) = ((3 : Nat) : Int) from by unfold wrap64; omega]
    rw [shuttleref06_Code.l1.eq_2, if_pos (by decide), h3, Option.bind_some, if_pos (by simp only [List.length_append, List.length_cons, List.length_nil]; omega), show wrap64 (((3 : Nat) : Int) + 1) = ((4 : Nat) : Int) from by unfold wrap64; omega]
    rw [shuttleref06_Code.l1.eq_2, if_neg (by decide), wrap_succ i (by omega)]
    have e : codeN l i ++ [bitB (lb l i) 0 7] ++ [bitB (lb l i) 1 7] ++ [bitB (lb l i) 2 7] ++ [bitB (lb l i) 3 7] = codeN l (i + 1) := by
      show _ = codeN l i ++ code4 l i
      simp [code4]
    rw [e]
    exact hn
theorem rcode_f (l : List Int) (h : ∀ x ∈ l, isb x) (hl : l.length ≤ 16384) (k : Nat) (hk : 6 * (l.length + 6) < k) : shuttleref06_Code.f k l = some (code l) :=
  rcode_l0 l h hl (l.length + 6) k 0 (by omega) hk
end Go.Proofs.YtmajbcglpcagoaaDoor.X

-- YtmajbcglpcagoaaDoorXConv2
namespace Go.Proofs.YtmajbcglpcagoaaDoor.X
open Go.RowKit Go.Proofs.YtmajbcglpcagoaaDoorW.PrintWords Go.Proofs.YtmajbcglpcagoaaDoorW.PrintLast Go.Proofs.YtmajbcglpcagoaaDoorW.PrintMore
set_option linter.unusedVariables false
theorem codeN_succ (l : List Int) (n : Nat) : codeN l (n + 1) = codeN l n ++ code4 l n := rfl
theorem code4_getD (l : List Int) (t s : Nat) (hs : s < 4) : (code4 l t).getD s 0 = bitB (lb l t) s 7 := by
  obtain rfl | rfl | rfl | rfl : s = 0 ∨ s = 1 ∨ s = 2 ∨ s = 3 := by omega
  all_goals rfl
theorem codeN_getD (l : List Int) (t s : Nat) (hs : s < 4) : ∀ n, t < n → (codeN l n).getD (4 * t + s) 0 = bitB (lb l t) s 7
  | 0, h => by omega
  | n + 1, h => by
    unfold codeN
    rw [List.getD_eq_getElem?_getD]
    by_cases c : t < n
    · rw [List.getElem?_append_left (by rw [codeN_length]; omega), ← List.getD_eq_getElem?_getD]
      exact codeN_getD l t s hs n c
    · obtain rfl : t = n := by omega
      rw [List.getElem?_append_right (by rw [codeN_length]; omega), codeN_length, show 4 * t + s - 4 * t = s from by omega, ← List.getD_eq_getElem?_getD]
      exact code4_getD l t s hs
/-- Two lists by exclusive or, their first n places. -/
def zx (a b : List Int) (n : Nat) : List Int := (List.range n).map fun j => Go.bits .xor .u8 (a.getD j 0) (b.getD j 0)
theorem zx_length (a b : List Int) (n : Nat) : (zx a b n).length = n := by simp [zx]
theorem zx_succ (a b : List Int) (n : Nat) : zx a b (n + 1) = zx a b n ++ [Go.bits .xor .u8 (a.getD n 0) (b.getD n 0)] := by
  unfold zx; rw [List.range_succ, List.map_append]; rfl
theorem zx_isb {a b : List Int} (ha : ∀ x ∈ a, isb x) (hb : ∀ x ∈ b, isb x) (n : Nat) : ∀ x ∈ zx a b n, isb x := by
  intro x hx
  simp only [zx, List.mem_map] at hx
  obtain ⟨j, _, rfl⟩ := hx
  exact xor_isb (getD_isb ha j) (getD_isb hb j)
theorem take_getD (a : List Int) (n j : Nat) (h : j < n) : (a.take n).getD j 0 = a.getD j 0 := by
  rw [List.getD_eq_getElem?_getD, List.getElem?_take, if_pos h, ← List.getD_eq_getElem?_getD]
theorem getD_out (a : List Int) (j : Nat) (h : a.length ≤ j) : a.getD j 0 = 0 := by
  rw [List.getD_eq_getElem?_getD, List.getElem?_eq_none h]; rfl
theorem zx_getD (a b : List Int) (n j : Nat) : (zx a b n).getD j 0 = Go.bits .xor .u8 ((a.take n).getD j 0) ((b.take n).getD j 0) := by
  by_cases h : j < n
  · rw [take_getD a n j h, take_getD b n j h]
    unfold zx
    rw [List.getD_eq_getElem?_getD, List.getElem?_map, List.getElem?_range h]; rfl
  · rw [getD_out _ _ (by rw [zx_length]; omega), getD_out (a.take n) j (by rw [List.length_take]; omega), getD_out (b.take n) j (by rw [List.length_take]; omega)]
    decide +kernel
theorem lb_zx (a b : List Int) (n t k : Nat) : lb (zx a b n) t k = Go.bits .xor .u8 (lb (a.take n) t k) (lb (b.take n) t k) := by
  unfold lb
  by_cases h : k ≤ t
  · rw [if_pos h, if_pos h, if_pos h, zx_getD]
  · rw [if_neg h, if_neg h, if_neg h]; decide +kernel
theorem take_isb {a : List Int} (h : ∀ x ∈ a, isb x) (n : Nat) : ∀ x ∈ a.take n, isb x := fun x hx => h x (List.mem_of_mem_take hx)
theorem bit_zx {a b : List Int} (ha : ∀ x ∈ a, isb x) (hb : ∀ x ∈ b, isb x) (n t s : Nat) :
    bitB (lb (zx a b n) t) s 7 = Go.bits .xor .u8 (bitB (lb (a.take n) t) s 7) (bitB (lb (b.take n) t) s 7) := by
  rw [← bitB_xor (lb_isb (take_isb ha n) t) (lb_isb (take_isb hb n) t) s 7]
  exact bitB_congr s 7 fun j _ => lb_zx a b n t j
/-- The newest bit is told by each stream. -/
theorem newest_all : ∀ w : Fin 64, ∀ s : Fin 4, bitB (bw w.val) s.val 7 ≠ bitB (bw (64 + w.val)) s.val 7 := by decide +kernel
theorem bitB_wd {b : Nat → Int} (hb : ∀ j, isb (b j)) (s : Nat) : bitB b s 7 = bitB (bw (wd b).toNat) s 7 := bitB_congr s 7 fun j hj => (bw_wd hb j hj).symm
theorem newest {b c : Nat → Int} (hb : ∀ j, isb (b j)) (hc : ∀ j, isb (c j)) (h : ∀ j, 1 ≤ j → j ≤ 6 → b j = c j) (s : Nat) (hs : s < 4) (e : bitB b s 7 = bitB c s 7) : b 0 = c 0 := by
  have hsd : sd b = sd c := by
    unfold sd
    rw [h 1 (by omega) (by omega), h 2 (by omega) (by omega), h 3 (by omega) (by omega), h 4 (by omega) (by omega), h 5 (by omega) (by omega), h 6 (by omega) (by omega)]
  have i1 := sd_in hb
  rw [bitB_wd hb, bitB_wd hc] at e
  have n1 := newest_all ⟨(sd b).toNat, by omega⟩ ⟨s, hs⟩
  have e1 : wd b = 64 * b 0 + sd b := rfl
  have e2 : wd c = 64 * c 0 + sd b := by rw [hsd]; rfl
  rcases hb 0 with h0 | h0 <;> rcases hc 0 with k0 | k0
  · rw [h0, k0]
  · exfalso
    rw [e1, e2, h0, k0, show (64 * 0 + sd b).toNat = (sd b).toNat from by omega, show (64 * 1 + sd b).toNat = 64 + (sd b).toNat from by omega] at e
    exact n1 e
  · exfalso
    rw [e1, e2, h0, k0, show (64 * 0 + sd b).toNat = (sd b).toNat from by omega, show (64 * 1 + sd b).toNat = 64 + (sd b).toNat from by omega] at e
    exact n1 e.symm
  · rw [h0, k0]
/-- Lists that tell the same in one stream at each step are the same. -/
theorem same_of {a b : List Int} (ha : ∀ x ∈ a, isb x) (hb : ∀ x ∈ b, isb x) (hl : a.length = b.length) (sel : Nat → Nat) (hs : ∀ t, sel t < 4)
    (h : ∀ t, t < a.length → bitB (lb a t) (sel t) 7 = bitB (lb b t) (sel t) 7) : a = b := by
  have key : ∀ m t, t < m → t < a.length → a.getD t 0 = b.getD t 0 := by
    intro m
    induction m with
    | zero => intro t h1; omega
    | succ m ih =>
      intro t h1 h2
      have := newest (lb_isb ha t) (lb_isb hb t) (fun j h3 h4 => by
        unfold lb
        by_cases c : j ≤ t
        · rw [if_pos c, if_pos c]; exact ih (t - j) (by omega) (by omega)
        · rw [if_neg c, if_neg c]) (sel t) (hs t) (h t h2)
      rwa [lb_zero, lb_zero] at this
  refine List.ext_getElem? fun t => ?_
  by_cases c : t < a.length
  · have := key (t + 1) t (by omega) c
    rw [List.getD_eq_getElem?_getD, List.getD_eq_getElem?_getD, List.getElem?_eq_getElem c, List.getElem?_eq_getElem (by omega)] at this
    rw [List.getElem?_eq_getElem c, List.getElem?_eq_getElem (by omega)]
    exact congrArg some this
  · rw [List.getElem?_eq_none (by omega), List.getElem?_eq_none (by omega)]
/-- Behind noughts. -/
theorem lb_late (l : List Int) (n m k : Nat) : lb (List.replicate n 0 ++ l) (n + m) k = lb l m k := by
  unfold lb
  by_cases c : k ≤ m
  · rw [if_pos (by omega), if_pos c, List.getD_eq_getElem?_getD, List.getElem?_append_right (by rw [List.length_replicate]; omega), List.length_replicate, show n + m - k - n = m - k from by omega, ← List.getD_eq_getElem?_getD]
  · rw [if_neg c]
    by_cases c2 : k ≤ n + m
    · rw [if_pos c2, List.getD_eq_getElem?_getD, List.getElem?_append_left (by rw [List.length_replicate]; omega), List.getElem?_replicate, if_pos (by omega)]; rfl
    · rw [if_neg c2]
theorem lb_nought (l : List Int) (n t k : Nat) (h : t < n) : lb (List.replicate n 0 ++ l) t k = 0 := by
  unfold lb
  by_cases c : k ≤ t
  · rw [if_pos c, List.getD_eq_getElem?_getD, List.getElem?_append_left (by rw [List.length_replicate]; omega), List.getElem?_replicate, if_pos (by omega)]; rfl
  · rw [if_neg c]
theorem codeN_nought (l : List Int) (n : Nat) : ∀ m, m ≤ n → codeN (List.replicate n 0 ++ l) m = List.replicate (4 * m) 0
  | 0, _ => rfl
  | m + 1, h => by
    unfold codeN
    rw [codeN_nought l n m (by omega)]
    have e : ∀ s, bitB (lb (List.replicate n 0 ++ l) m) s 7 = 0 := fun s => (bitB_congr s 7 fun j _ => lb_nought l n m j (by omega)).trans (bitB_zero s 7)
    unfold code4
    rw [e, e, e, e, show 4 * (m + 1) = 4 * m + 4 from by omega, ← List.replicate_append_replicate]
    rfl
theorem codeN_late (l : List Int) (n : Nat) : ∀ m, codeN (List.replicate n 0 ++ l) (n + m) = List.replicate (4 * n) 0 ++ codeN l m
  | 0 => by rw [Nat.add_zero, codeN_nought l n n (Nat.le_refl _)]; show _ = _ ++ []; rw [List.append_nil]
  | m + 1 => by
    have e : ∀ s, bitB (lb (List.replicate n 0 ++ l) (n + m)) s 7 = bitB (lb l m) s 7 := fun s => bitB_congr s 7 fun j _ => lb_late l n m j
    have e4 : code4 (List.replicate n 0 ++ l) (n + m) = code4 l m := by unfold code4; rw [e, e, e, e]
    rw [show n + (m + 1) = (n + m) + 1 from rfl, codeN_succ, codeN_late l n m, e4, codeN_succ, List.append_assoc]
theorem code_late (l : List Int) (n : Nat) : code (List.replicate n 0 ++ l) = List.replicate (4 * n) 0 ++ code l := by
  unfold code
  rw [List.length_append, List.length_replicate, Nat.add_assoc, codeN_late]
end Go.Proofs.YtmajbcglpcagoaaDoor.X

-- YtmajbcglpcagoaaDoorXStr
namespace Go.Proofs.YtmajbcglpcagoaaDoor.X
open Go.RowKit Go.Proofs.YtmajbcglpcagoaaDoorW.PrintWords Go.Proofs.YtmajbcglpcagoaaDoorW.PrintLast Go.Proofs.YtmajbcglpcagoaaDoorW.PrintMore

theorem toList_loop (b : ByteArray) (d : Nat) : ∀ (i : Nat) (r : List UInt8), i + d = b.size → ByteArray.toList.loop b i r = r.reverse ++ b.data.toList.drop i := by
  induction d with
  | zero =>
    intro i r hi
    unfold ByteArray.toList.loop
    have hs : b.data.toList.length = b.size := by rw [Array.length_toList]; rfl
    rw [if_neg (by omega), List.drop_eq_nil_of_le (by omega), List.append_nil]
  | succ d ih =>
    intro i r hi
    unfold ByteArray.toList.loop
    have hs : b.data.toList.length = b.size := by rw [Array.length_toList]; rfl
    rw [if_pos (by omega), ih (i + 1) _ (by omega), List.reverse_cons, List.append_assoc, drop_cons b.data.toList i (by omega)]
    congr 1
    show [b.get! i] ++ _ = _
    rw [show b.get! i = b.data.toList[i]'(by omega) from by
      show b.data[i]! = _
      have h : i < b.data.size := by rw [← Array.length_toList]; omega
      rw [getElem!_pos b.data i h]; simp]
    rfl
theorem toList_data (b : ByteArray) : b.toList = b.data.toList := by
  unfold ByteArray.toList
  rw [toList_loop b b.size 0 [] (by omega)]; simp
theorem str_list (l : List Int) : (strOfNums l).toList = l.map fun n => UInt8.ofNat n.toNat := by
  rw [toList_data, strOfNums_data]
theorem str_inj : ∀ {a b : List Int}, (∀ x ∈ a, 0 ≤ x ∧ x ≤ 255) → (∀ x ∈ b, 0 ≤ x ∧ x ≤ 255) → (strOfNums a).toList = (strOfNums b).toList → a = b
  | [], [], _, _, _ => rfl
  | [], _ :: _, _, _, h => by rw [str_list, str_list] at h; cases h
  | _ :: _, [], _, _, h => by rw [str_list, str_list] at h; cases h
  | x :: a, y :: b, ha, hb, h => by
    rw [str_list, str_list] at h
    simp only [List.map_cons, List.cons.injEq] at h
    have h1 := ha x List.mem_cons_self
    have h2 := hb y List.mem_cons_self
    have e : x = y := by
      have := congrArg UInt8.toNat h.1
      rw [UInt8.toNat_ofNat', UInt8.toNat_ofNat'] at this
      omega
    rw [e, str_inj (fun z hz => ha z (List.mem_cons_of_mem _ hz)) (fun z hz => hb z (List.mem_cons_of_mem _ hz)) (by rw [str_list, str_list]; exact h.2)]
theorem str_beq {a b : List Int} (ha : ∀ x ∈ a, 0 ≤ x ∧ x ≤ 255) (hb : ∀ x ∈ b, 0 ≤ x ∧ x ≤ 255) : ((strOfNums a).toList == (strOfNums b).toList) = decide (a = b) := by
  by_cases h : a = b
  · subst h; simp
  · rw [decide_eq_false h]
    exact beq_eq_false_iff_ne.2 fun e => h (str_inj ha hb e)

end Go.Proofs.YtmajbcglpcagoaaDoor.X

-- YtmajbcglpcagoaaDoorX43
namespace Go.Proofs.YtmajbcglpcagoaaDoor.X
open Go.RowKit Go.Proofs.YtmajbcglpcagoaaDoorW.PrintWords Go.Proofs.YtmajbcglpcagoaaDoorW.PrintLast Go.Proofs.YtmajbcglpcagoaaDoorW.PrintMore
attribute [local go_sem] max2_int min2_int max_two min_two max_three min_three max_four min_four   -- for this text's walks alone
set_option linter.unusedVariables false
set_option linter.unusedSimpArgs false

/-! ### shuttleref10_Stream: function 37 -/
def shuttleref10_Stream.f (a0 : Int) (a1 : Int) : Option (Int) := some (Int.tmod (wrap64 (a0 + (Int.tmod a1 4))) 4)
set_option maxHeartbeats 8000000 in
set_option maxRecDepth 100000 in
theorem shuttleref10_Stream.calls (a0 : Int) (a1 : Int) (r : Int) (w : World) (h : shuttleref10_Stream.f a0 a1 = some r) :
    Calls Tryd.prog 37 #[.int .i64 a0, .int .i64 a1] w fun e w' => e = .returned (.int .i64 r) ∧ Drawn0 w w' := by
  have H : (some (Int.tmod (wrap64 (a0 + (Int.tmod a1 4))) 4)) = some r := h
  clear h
  obtain rfl := Option.some.inj H
  go_enter Tryd.func37, Tryd.ntmps37
  go_wp2
  go_ret
  exact ⟨by first | rfl | (simp; done) | (simp [*]; done), by repeat (first | exact Drawn0.refl _ | apply Drawn0.step)⟩

end Go.Proofs.YtmajbcglpcagoaaDoor.X
